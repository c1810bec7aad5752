/- Law IntegerLimits returns true for every number and both signs. No conditions. -/
import Derived.Test.YtadkcipjcmkoiaaLenZ
import Derived.Test.YtadkcipjcmkoiaaDrawOn
import Derived.Test.YtadkcipjcmkoiaaDrawTwo
import Derived.Test.YtadkcipjcmkoiaaDvs
namespace Go.Proofs.Ytadkcipjcmkoiaa.lawIL
open Go.ChangeShapes Go.WideShapes Go.ChangeAt Go.RowKit
set_option linter.unusedVariables false
theorem tmod5 (x : Int) : (x.tmod 5 < 0 ∧ x % 5 = x.tmod 5 + 5 ∧ -5 < x.tmod 5) ∨ (0 ≤ x.tmod 5 ∧ x % 5 = x.tmod 5 ∧ x.tmod 5 < 5) := by
  rcases Int.lt_or_le x 0 with h | h
  · have e : x.tmod 5 = -((-x) % 5) := by
      rw [← Int.tmod_eq_emod_of_nonneg (show 0 ≤ -x by omega), Int.neg_tmod]; omega
    omega
  · rw [Int.tmod_eq_emod_of_nonneg h]; omega
set_option maxHeartbeats 1000000 in
theorem place5 (x : Int) (w : World) (hx0 : -9223372036854775808 ≤ x) (hx1 : x ≤ 9223372036854775807) :
    Calls Try.prog 30 #[.int .i64 x, .int .i64 5] w fun e w' => e = .returned (.int .i64 (x % 5)) ∧ Below w.heap.size w w' := by
  have h := tmod5 x
  obtain ⟨t, ht⟩ : ∃ t, x.tmod 5 = t := ⟨_, rfl⟩
  rw [ht] at h
  rcases h with ⟨h1, h2, h3⟩ | ⟨h1, h2, h3⟩
  · rw [h2]
    have n1 : ¬ 0 ≤ t := by omega
    go_enter Try.func30, Try.ntmps30; (try simp only [List.append_eq, List.cons_append, List.nil_append])
    go_wp2_with fail
    go_ret
    exact ⟨by first | rfl | (simp; omega), by ((with_reducible (repeat (first | exact bR _ _ | refine bS ?_ ?_ _ | refine bA ?_ ?_ _ | refine bD ?_ | refine bT ?_ (by assumption) ?_ | refine bO (by assumption) ?_ ?_))) <;> (first | omega | (simp; done) | (simp <;> omega)))⟩
  · rw [h2]
    have n1 : ¬ t < 0 := by omega
    go_enter Try.func30, Try.ntmps30; (try simp only [List.append_eq, List.cons_append, List.nil_append])
    go_wp2_with fail
    go_ret
    exact ⟨by first | rfl | (simp; omega), by ((with_reducible (repeat (first | exact bR _ _ | refine bS ?_ ?_ _ | refine bA ?_ ?_ _ | refine bD ?_ | refine bT ?_ (by assumption) ?_ | refine bO (by assumption) ?_ ?_))) <;> (first | omega | (simp; done) | (simp <;> omega)))⟩
theorem canN_exact {x m : Nat} (h1 : PB m ≤ x) (h2 : (x : Int) < PB (m + 1)) : (canN x).length = m + 1 := by
  have a := canN_len.2 h2
  have b : ¬ (canN x).length ≤ m := fun h => by have := canN_len.1 h; omega
  omega
def full (k : Nat) : List Int := List.replicate k 4294967295
theorem full_lim (k : Nat) : Lim (full k) := fun x hx => by
  have := List.eq_of_mem_replicate hx
  omega
theorem full_mv (k : Nat) : mv (full k) = PB k - 1 := by
  induction k with
  | zero => rfl
  | succ k ih =>
    show mv ((4294967295 : Int) :: full k) = _
    rw [mv_cons, ih, PB_succ]; omega
theorem full_len (k : Nat) : (full k).length = k := List.length_replicate
theorem set_full {k i : Nat} (h : i < k) : (full i ++ List.replicate (k - i) 0).set i 4294967295 = full (i + 1) ++ List.replicate (k - (i + 1)) 0 := by
  obtain ⟨m, hm⟩ : ∃ m, k - i = m + 1 := ⟨k - i - 1, by omega⟩
  have hm2 : k - (i + 1) = m := by omega
  rw [hm, hm2, List.set_append_right _ _ (by rw [full_len]; exact Nat.le_refl _), full_len, Nat.sub_self, List.replicate_succ, List.set_cons_zero]
  unfold full
  rw [List.replicate_succ', List.append_assoc]; rfl
/-- What holds of the number with k full limbs. -/
theorem facts (k : Nat) (neg : Bool) (hk : 254 ≤ k) (hk2 : k ≤ 258) (Z O : Int) (hZ : Z = sv neg (PB k - 1)) (hO : O = sv neg 1) :
    (canN Z.natAbs).length = k ∧ (canN (Z + O).natAbs).length = k + 1 ∧ (canN (Z - O).natAbs).length ≤ k ∧ (canN (Z * O).natAbs).length = k ∧ (canN (Z * 2).natAbs).length = k + 1 ∧ bitN Z.natAbs = 32 * k ∧ Z ≠ 0 ∧ O ≠ 0 := by
  have p1 : (1 : Int) < PB k := by have := PB_lt (show 0 < k by omega); rwa [PB_zero] at this
  obtain ⟨m, hm⟩ : ∃ m, k = m + 1 := ⟨k - 1, by omega⟩
  have p2 : PB k = 4294967296 * PB m := by rw [hm, PB_succ]
  have p3 : PB (k + 1) = 4294967296 * PB k := PB_succ k
  have p4 := PB_pos m
  have za : ((Z.natAbs : Nat) : Int) = PB k - 1 := by rw [hZ]; cases neg <;> simp [sv] <;> omega
  have hOn : O.natAbs = 1 := by rw [hO]; cases neg <;> rfl
  have aa : (((Z + O).natAbs : Nat) : Int) = PB k := by rw [hZ, hO]; cases neg <;> simp [sv] <;> omega
  have ss : (((Z - O).natAbs : Nat) : Int) = PB k - 2 := by rw [hZ, hO]; cases neg <;> simp [sv] <;> omega
  have l0 : (canN Z.natAbs).length = k := by
    rw [hm]
    refine canN_exact ?_ ?_
    · rw [za]; omega
    · rw [za, ← hm]; omega
  refine ⟨l0, ?_, ?_, ?_, ?_, ?_, by omega, by omega⟩
  · exact canN_exact (by rw [aa]; exact Int.le_refl _) (by rw [aa]; omega)
  · exact canN_len.2 (by rw [ss]; omega)
  · rw [Int.natAbs_mul, hOn, Nat.mul_one]; exact l0
  · refine canN_exact ?_ ?_
    · rw [Int.natAbs_mul]; push_cast; rw [za]; show PB k ≤ (PB k - 1) * 2; omega
    · rw [Int.natAbs_mul]; push_cast; rw [za]; show (PB k - 1) * 2 < PB (k + 1); omega
  · have hp : PB k = ((2 ^ (32 * k) : Nat) : Int) := by rw [PB_pow]; push_cast; rfl
    obtain ⟨q, hq⟩ : ∃ q, 32 * k = q + 1 := ⟨32 * k - 1, by omega⟩
    rw [hq]
    have h2 : 2 ^ (q + 1) = 2 * 2 ^ q := by rw [Nat.pow_succ, Nat.mul_comm]
    have h3 : 0 < 2 ^ q := Nat.pow_pos (by decide)
    rw [hq] at hp
    exact bitN_of (by omega) (by omega)
theorem codes (k : Nat) (neg : Bool) (Z O W M : Int) (hk : 254 ≤ k) (hO : O = sv neg 1) (hW : W = if 256 < k then 2 else 0) (hM : M = if 256 ≤ k then 2 else 0)
    (h : (canN Z.natAbs).length = k ∧ (canN (Z + O).natAbs).length = k + 1 ∧ (canN (Z - O).natAbs).length ≤ k ∧ (canN (Z * O).natAbs).length = k ∧ (canN (Z * 2).natAbs).length = k + 1 ∧ bitN Z.natAbs = 32 * k ∧ Z ≠ 0 ∧ O ≠ 0) :
    (∃ x, addR Z O = (x, M)) ∧ (∃ x, subR Z O = (x, W)) ∧ (∃ x, mulR Z O = (x, W)) ∧ (∃ x, mulR Z 2 = (x, M)) ∧ (∃ q r, quoR Z O = (q, r, W)) ∧ (∃ x, gcdR Z O = (x, W)) ∧ (∃ x, shiftR Z 1 = (x, M)) ∧ (∃ x, shiftR Z (-1) = (x, W)) ∧ (∃ t, textE Z = (t, W)) := by
  obtain ⟨f1, f2, f3, f4, f5, f6, f7, f8⟩ := h
  have lO : lgB O = false := lgZ_of (n := 100) (by rw [hO]; cases neg <;> exact lenZ_word (by decide) (by decide)) (by decide)
  have l2 : lgB 2 = false := lgZ_of (n := 100) (lenZ_word (by decide) (by decide)) (by decide)
  by_cases hb : 256 < k
  · have lZ : lgB Z = true := by unfold lgB; rw [f1]; exact decide_eq_true hb
    rw [if_pos hb] at hW
    rw [if_pos (by omega)] at hM
    subst hW hM
    unfold addR subR mulR quoR gcdR shiftR textE
    rw [lZ]
    exact ⟨⟨_, rfl⟩, ⟨_, rfl⟩, ⟨_, rfl⟩, ⟨_, rfl⟩, ⟨_, _, rfl⟩, ⟨_, rfl⟩, ⟨_, rfl⟩, ⟨_, rfl⟩, ⟨_, rfl⟩⟩
  · have lZ : lgB Z = false := by unfold lgB; rw [f1]; exact decide_eq_false hb
    rw [if_neg hb] at hW
    have s2 : sizedR (Z - O) = (Z - O, 0) := by unfold sizedR lgB; rw [decide_eq_false (by omega)]; rfl
    have s3 : sizedR (Z * O) = (Z * O, 0) := by unfold sizedR lgB; rw [decide_eq_false (by omega)]; rfl
    have hs1 : ∃ x, sizedR (Z + O) = (x, M) := by
      unfold sizedR lgB
      rw [f2, hM]
      by_cases h2 : 256 ≤ k
      · rw [decide_eq_true (by omega), if_pos h2]; exact ⟨_, rfl⟩
      · rw [decide_eq_false (by omega), if_neg h2]; exact ⟨_, rfl⟩
    have hs4 : ∃ x, sizedR (Z * 2) = (x, M) := by
      unfold sizedR lgB
      rw [f5, hM]
      by_cases h2 : 256 ≤ k
      · rw [decide_eq_true (by omega), if_pos h2]; exact ⟨_, rfl⟩
      · rw [decide_eq_false (by omega), if_neg h2]; exact ⟨_, rfl⟩
    clear hM
    subst hW
    refine ⟨?_, ?_, ?_, ?_, ?_, ?_, ?_, ?_, ?_⟩
    · unfold addR; rw [lZ, lO]; exact hs1
    · unfold subR; rw [lZ, lO]; exact ⟨_, s2⟩
    · unfold mulR; rw [lZ, lO]; exact ⟨_, s3⟩
    · unfold mulR; rw [lZ, l2]; exact hs4
    · unfold quoR; rw [lZ, lO, if_neg (by decide), if_neg f8]; exact ⟨_, _, rfl⟩
    · unfold gcdR; rw [lZ, lO]; exact ⟨_, rfl⟩
    · unfold shiftR; rw [lZ, if_neg (by decide), if_neg f7, if_neg (by decide), if_neg (by decide)]; exact hs4
    · unfold shiftR; rw [lZ, if_neg (by decide), if_neg f7, if_neg (by decide), if_pos (by decide)]; exact ⟨_, rfl⟩
    · unfold textE; rw [lZ]; exact ⟨_, rfl⟩
set_option maxRecDepth 100000 in
set_option maxHeartbeats 8000000 in
theorem walk (w : World) (n : Int) (wn : (Lit.int .i64 n).wf = true) (neg : Bool) :
    Calls Try.prog 8 #[.int .i64 n, .bool neg] w fun e w' => e = .returned (.bool true) ∧ Below w.heap.size w w' := by
  obtain ⟨hn0, hn1⟩ := wf_bd wn
  have hpl := fun w => place5 n w hn0 hn1
  obtain ⟨k, hk⟩ : ∃ k : Nat, (k : Int) = 254 + n % 5 := ⟨(254 + n % 5).toNat, by omega⟩
  have k0 : 254 ≤ k := by omega
  have k1 : k ≤ 258 := by omega
  obtain ⟨p, hp⟩ : ∃ p, n % 5 = p := ⟨_, rfl⟩
  have hkp : 254 + p = (k : Int) := by omega
  have hp0 : 0 ≤ p := by omega
  have hp1 : p < 5 := by omega
  rw [hp] at hpl
  have HPL := Lib.hid hpl
  clear hpl hk hp
  have hmk := fun w => run_make_row' (P := Try.prog) 22 50 (.int .u32 0) 4 Try.underlying22 limbInfo rfl .i64 .i64 k (by omega) (by omega) w
  have ki0 : (254 : Int) ≤ (k : Int) := by omega
  have ki1 : (k : Int) ≤ 258 := by omega
  obtain ⟨Z, hZ⟩ : ∃ Z, Z = sv neg (PB k - 1) := ⟨_, rfl⟩
  obtain ⟨O, hO⟩ : ∃ O, O = sv neg 1 := ⟨_, rfl⟩
  obtain ⟨f1, f2, f3, f4, f5, f6, f7, f8⟩ := facts k neg k0 k1 Z O hZ hO
  have HF := Lib.hid (And.intro f1 (And.intro f2 (And.intro f3 (And.intro f4 (And.intro f5 (And.intro f6 (And.intro f7 f8)))))))
  have HZO := Lib.hid (And.intro hZ hO)
  clear f1 f2 f3 f4 f5 f6 f7 f8 hZ hO
  go_enter Try.func8, Try.ntmps8; (try simp only [List.append_eq, List.cons_append, List.nil_append])
  go_wp2_with fail
  -- own blocks: 
  (go_at_call 10; refine (awake01_any _).mono ?_; rintro e w1 ⟨rfl, hb_w1⟩; have hz_w1 := hb_w1.size; (try simp at hz_w1); skip)
  go_wp2_with fail
  (go_at_call 30; refine (HPL.out _).mono ?_; rintro e w2 ⟨rfl, hb_w2⟩; have hz_w2 := hb_w2.size; (try simp at hz_w2); skip)
  have HB := Lib.hid (show Below w.heap.size w w2 by ((with_reducible (repeat (first | exact bR _ _ | refine bS ?_ ?_ _ | refine bA ?_ ?_ _ | refine bD ?_ | refine bT ?_ (by assumption) ?_ | refine bO (by assumption) ?_ ?_))) <;> (first | omega | (simp; done) | (simp <;> omega))))
  have hz2 : w.heap.size ≤ w2.heap.size := by omega
  clear hb_w1 hb_w2
  go_wp2_with fail
  clear hmk
  have hg0 : w2.heap.size < w2.heap.size + 1 := by omega
  go_loopw [7] (fun vi wr => ∃ (i : Nat), i ≤ k ∧ vi = .int .i64 i ∧ RowL wr w2.heap.size (full i ++ List.replicate (k - i) 0) ∧ C2 wr (w2.heap.size + 1) (.bool neg) (.slice (some ⟨w2.heap.size, 0, none⟩) k k) ∧ Below w2.heap.size w2 wr) (fun vi _ => (k - (intOf vi).toNat))
  case atStart =>
    refine ⟨0, by omega, rfl, ?_, ?_, ((Below.refl _ _).alloc (Nat.le_refl _) _).alloc (by simp) _⟩
    · exact (RowL.made w2 k).below ((Below.refl _ _).alloc (Nat.le_refl _) _)
    · exact C2.of_row (by have h := heap_alloc_new (w2.alloc (.cells (madeCells #[.int .u32 0] k) 50)) (.cells #[.bool neg, .slice (some ⟨w2.heap.size, 0, none⟩) k k] 24); simpa using h)
  case round =>
    obtain ⟨i, hi, rfl, hrow, hc2, hbel⟩ := hrel
    obtain ⟨w3, rfl⟩ : ∃ w3 : World, w3 = wr := ⟨_, rfl⟩
    have HR := Lib.hid hrow
    have HC := Lib.hid hc2
    have HBE := Lib.hid hbel
    have hz := hbel.size
    have i0 : (0 : Int) ≤ (i : Int) := by omega
    have b0 := hc2.1
    have b1 := hc2.2.1
    have b2 := hc2.2.2
    have b3 := hc2.lt
    have r1 := hrow.frozen
    have r2 := hrow.lt
    clear hrow hc2 hbel
    by_cases hik : i < k
    · have j1 : (i : Int) < (k : Int) := by omega
      have hget : (full i ++ List.replicate (k - i) 0)[i]? = some 0 := by
        rw [List.getElem?_append_right (by rw [full_len]; exact Nat.le_refl _), full_len, Nat.sub_self]
        obtain ⟨m, hm⟩ : ∃ m, k - i = m + 1 := ⟨k - i - 1, by omega⟩
        rw [hm]; rfl
      have cx := HR.out.cell hget
      have HS := Lib.hid (set_full hik)
      clear hget
      go_wp2_with fail
      go_roundw
      case rel => exact ⟨i + 1, by omega, by go_num, by have h := HR.out.set i 4294967295; rw [HS.out] at h; exact h, ⟨by go_simp, by go_simp, by intro o; go_simp⟩, by have hb := HBE.out; ((with_reducible (repeat (first | exact bR _ _ | refine bS ?_ ?_ _ | refine bA ?_ ?_ _ | refine bD ?_ | refine bT ?_ (by assumption) ?_ | refine bO (by assumption) ?_ ?_))) <;> (first | omega | (simp; done) | (simp <;> omega)))⟩
      case measure => simp [intOf]; omega
    · obtain rfl : i = k := by omega
      have j1 : ¬ (i : Int) < (i : Int) := by omega
      obtain ⟨k, rfl⟩ : ∃ k, k = i := ⟨_, rfl⟩
      have hrow := HR.out
      rw [Nat.sub_self, List.replicate_zero, List.append_nil] at hrow
      have HR := Lib.hid hrow
      have hlat := hrow.lat
      have HB3 := Lib.hid (HB.out.trans (HBE.out.mono hz2))
      obtain ⟨L, hL⟩ : ∃ L, L = full k := ⟨_, rfl⟩
      have hLk : L.length = k := by rw [hL]; exact full_len k
      have hLL : Lim L := by rw [hL]; exact full_lim k
      have hLv : mv L = PB k - 1 := by rw [hL]; exact full_mv k
      rw [← hL] at hlat
      have hZA : IsZ w3 (.agg #[.bool neg, .slice (some ⟨w2.heap.size, 0, none⟩) k k]) 300 Z := ⟨neg, some ⟨w2.heap.size, 0, none⟩, k, L, by rw [hLk], by omega, hLL, by omega, hlat, by rw [hLv]; exact HZO.out.1⟩
      obtain ⟨f1, f2, f3, f4, f5, f6, f7, f8⟩ := HF.out
      have hKT : ∀ (_ : Unit) (Ab : Option Addr) (cb : Nat) (wb : World), (L ++ [0, 0]).length ≤ cb → LAt wb Ab (L ++ [0, 0]) → Calls Try.prog 31 #[.agg #[.bool neg, .slice Ab (L.length + 2) cb]] wb fun e w' => Below wb.heap.size wb w' ∧ ∃ A c, e = .returned (.agg #[.bool (decide (Z < 0)), .slice A k c]) := by
        intro _ Ab cb wb hcb hAb
        rw [show L.length + 2 = (L ++ [0, 0]).length by simp]
        refine (itrim_any 300 _ Z wb ⟨neg, Ab, cb, L ++ [0, 0], rfl, hcb, hLL.append (Lim.cons (by decide) (by decide) (Lim.cons (by decide) (by decide) Lim.nil)), by rw [List.length_append, hLk]; simp; omega, hAb, ?_⟩ (by omega)).mono ?_
        · rw [mv_append, mv_two, hLv]; show Z = sv neg (PB k - 1 + _ * (0 + 4294967296 * 0)); rw [show (0 : Int) + 4294967296 * 0 = 0 by rfl, Int.mul_zero, Int.add_zero]; exact HZO.out.1
        · rintro e w' ⟨hb, v, rfl, A, c, rfl, hc, _⟩
          rw [f1]
          exact ⟨hb, A, c, rfl⟩
      obtain ⟨Wc, hWc⟩ : ∃ q : Int, q = if 256 < k then 2 else 0 := ⟨_, rfl⟩
      obtain ⟨Mc, hMc⟩ : ∃ q : Int, q = if 256 ≤ k then 2 else 0 := ⟨_, rfl⟩
      obtain ⟨⟨x1, e1⟩, ⟨x2, e2⟩, ⟨x3, e3⟩, ⟨x4, e4⟩, ⟨x5, y5, e5⟩, ⟨x6, e6⟩, ⟨x7, e7⟩, ⟨x8, e8⟩, ⟨x9, e9⟩⟩ := codes k neg Z O Wc Mc (by omega) HZO.out.2 hWc hMc HF.out
      have k1 := fun u v w h1 h2 => iadd_any 300 u v Z O w h1 h2 (by omega)
      have k2 := fun u v w h1 h2 => isub_any 300 u v Z O w h1 h2 (by omega)
      have k3 := fun u v w h1 h2 => imul_any 300 u v Z O w h1 h2 (by omega)
      have k4 := fun u v w h1 h2 => imul_any 300 u v Z 2 w h1 h2 (by omega)
      have k5 := fun u v w h1 h2 => iquo_any 300 u v Z O w h1 h2 (by omega)
      have k6 := fun u v w h1 h2 => igcd_any 300 u v Z O w h1 h2 (by omega)
      have k7 := fun u w h => ishift_any 300 u Z 1 w h (by omega) (by omega) (by omega)
      have k8 := fun u w h => ishift_any 300 u Z (-1) w h (by omega) (by omega) (by omega)
      have k9 := fun u w h => itext_any 300 u Z w h (by omega)
      have k10 := fun u w h => ibits_any 300 u Z w h (by omega)
      rw [e1] at k1
      rw [e2] at k2
      rw [e3] at k3
      rw [e4] at k4
      rw [e5] at k5
      rw [e6] at k6
      rw [e7] at k7
      rw [e8] at k8
      rw [e9] at k9
      rw [f6] at k10
      simp only at k1 k2 k3 k4 k5 k6 k7 k8 k9
      have l2 : (canN (2 : Int).natAbs).length ≤ 300 := Nat.le_trans (lenZ_word (by omega) (by omega)) (by decide)
      have HA := Lib.hid hZA
      have HL := Lib.hid hlat
      have KT := Lib.hid hKT
      have HLK := Lib.hid hLk
      have HO0 := Lib.hid HZO.out.2
      have hz3 : w.heap.size ≤ w3.heap.size := by omega
      replace HB := HB3
      have k256 : (k : Int) ≤ 258 := by omega
      have c0 := HC.out.1
      have c1 := HC.out.2.1
      have c2 := HC.out.2.2
      have c3 := HC.out.lt
      clear f1 f2 f3 f4 f5 f6 f7 f8 e1 e2 e3 e4 e5 e6 e7 e8 e9 hZA hKT hlat hrow hLv hLL hL hLk b0 b1 b2 b3 r1 r2 HB3
      cases neg
      · -- the sign False
        by_cases h255 : k ≤ 255
        · obtain rfl : Wc = 0 := by rw [hWc, if_neg (by omega)]
          obtain rfl : Mc = 0 := by rw [hMc, if_neg (by omega)]
          have n1 : ¬ (256 : Int) < (k : Int) := by omega
          have n2 : ((k : Int) == 256) = false := by simp; omega
          clear hWc hMc h255
          obtain rfl : O = 1 := HO0.out
          have l1 : (canN (1 : Int).natAbs).length ≤ 300 := Nat.le_trans (lenZ_word (by omega) (by omega)) (by decide)
          have K1 := Lib.hid k1
          have K2 := Lib.hid k2
          have K3 := Lib.hid k3
          have K4 := Lib.hid k4
          have K5 := Lib.hid k5
          have K6 := Lib.hid k6
          have K7 := Lib.hid k7
          have K8 := Lib.hid k8
          have K9 := Lib.hid k9
          have K10 := Lib.hid k10
          clear k1 k2 k3 k4 k5 k6 k7 k8 k9 k10 HZO HF HPL HR HC HBE HO0
          -- own blocks: w2.heap.size + 1:2
          go_wp2_with fail
          (go_at_call 20; refine (iof_any 1 _ (by omega) (by omega)).mono ?_; rintro e w4 ⟨hb_w4, v4, rfl, hv4⟩; have hz_w4 := hb_w4.size; (try simp at hz_w4); (with_reducible apply cel2 (b := w2.heap.size + 1) hb_w4); (focus ((try simp) <;> omega)); (focus omega); (focus (go_simp; try exact rfl)); (focus (go_simp; try exact rfl)); (focus (intro o; go_simp)); intro cc cc fz hl)
          have HW4 := Lib.hid (show Below w3.heap.size w3 w4 by ((with_reducible (repeat (first | exact bR _ _ | refine bS ?_ ?_ _ | refine bA ?_ ?_ _ | refine bD ?_ | refine bT ?_ (by assumption) ?_ | refine bO (by assumption) ?_ ?_))) <;> (first | omega | (simp; done) | (simp <;> omega))))
          have HO := Lib.hid hv4
          replace HA := Lib.hid (HA.out.below HW4.out)
          replace HL := Lib.hid (HL.out.below HW4.out)
          have hz4 : w.heap.size ≤ w4.heap.size := by omega
          replace HB := Lib.hid (HB.out.trans (HW4.out.mono (by omega)))
          clear hb_w4 HW4 hv4
          obtain ⟨AO, cO, eO, _, _⟩ := HO.out
          subst eO
          go_wp2_with fail
          -- own blocks besides: w4.heap.size:2
          (go_at_call 24; refine (K1.out _ _ _ (HA.out.below ((Below.refl _ _).alloc (Nat.le_refl _) _)) ((HO.out.below ((Below.refl _ _).alloc (Nat.le_refl _) _)).zl l1)).mono ?_; rintro e w5 ⟨hb_w5, _, _, rfl, _, _⟩; have hz_w5 := hb_w5.size; (try simp at hz_w5); (with_reducible apply cel2 (b := w2.heap.size + 1) hb_w5); (focus ((try simp) <;> omega)); (focus omega); (focus (go_simp; try exact rfl)); (focus (go_simp; try exact rfl)); (focus (intro o; go_simp)); intro cc cc fz hl; (with_reducible apply cel2 (b := w4.heap.size) hb_w5); (focus ((try simp) <;> omega)); (focus omega); (focus (go_simp; try exact rfl)); (focus (go_simp; try exact rfl)); (focus (intro o; go_simp)); intro cc cc fz hl)
          have HW5 := Lib.hid (show Below w4.heap.size w4 w5 by ((with_reducible (repeat (first | exact bR _ _ | refine bS ?_ ?_ _ | refine bA ?_ ?_ _ | refine bD ?_ | refine bT ?_ (by assumption) ?_ | refine bO (by assumption) ?_ ?_))) <;> (first | omega | (simp; done) | (simp <;> omega))))
          replace HA := Lib.hid (HA.out.below HW5.out)
          replace HL := Lib.hid (HL.out.below HW5.out)
          replace HO := Lib.hid (HO.out.below HW5.out)
          have hz5 : w.heap.size ≤ w5.heap.size := by omega
          replace HB := Lib.hid (HB.out.trans (HW5.out.mono (by omega)))
          clear hb_w5 HW5
          go_wp2_with fail
          (go_at_call 19; refine (K2.out _ _ _ (HA.out.below ((Below.refl _ _).alloc (Nat.le_refl _) _)) ((HO.out.below ((Below.refl _ _).alloc (Nat.le_refl _) _)).zl l1)).mono ?_; rintro e w6 ⟨hb_w6, _, _, rfl, _, _⟩; have hz_w6 := hb_w6.size; (try simp at hz_w6); (with_reducible apply cel2 (b := w2.heap.size + 1) hb_w6); (focus ((try simp) <;> omega)); (focus omega); (focus (go_simp; try exact rfl)); (focus (go_simp; try exact rfl)); (focus (intro o; go_simp)); intro cc cc fz hl; (with_reducible apply cel2 (b := w4.heap.size) hb_w6); (focus ((try simp) <;> omega)); (focus omega); (focus (go_simp; try exact rfl)); (focus (go_simp; try exact rfl)); (focus (intro o; go_simp)); intro cc cc fz hl)
          have HW6 := Lib.hid (show Below w5.heap.size w5 w6 by ((with_reducible (repeat (first | exact bR _ _ | refine bS ?_ ?_ _ | refine bA ?_ ?_ _ | refine bD ?_ | refine bT ?_ (by assumption) ?_ | refine bO (by assumption) ?_ ?_))) <;> (first | omega | (simp; done) | (simp <;> omega))))
          replace HA := Lib.hid (HA.out.below HW6.out)
          replace HL := Lib.hid (HL.out.below HW6.out)
          replace HO := Lib.hid (HO.out.below HW6.out)
          have hz6 : w.heap.size ≤ w6.heap.size := by omega
          replace HB := Lib.hid (HB.out.trans (HW6.out.mono (by omega)))
          clear hb_w6 HW6
          go_wp2_with fail
          (go_at_call 23; refine (K3.out _ _ _ (HA.out.below ((Below.refl _ _).alloc (Nat.le_refl _) _)) ((HO.out.below ((Below.refl _ _).alloc (Nat.le_refl _) _)).zl l1)).mono ?_; rintro e w7 ⟨hb_w7, _, _, rfl, _, _⟩; have hz_w7 := hb_w7.size; (try simp at hz_w7); (with_reducible apply cel2 (b := w2.heap.size + 1) hb_w7); (focus ((try simp) <;> omega)); (focus omega); (focus (go_simp; try exact rfl)); (focus (go_simp; try exact rfl)); (focus (intro o; go_simp)); intro cc cc fz hl; (with_reducible apply cel2 (b := w4.heap.size) hb_w7); (focus ((try simp) <;> omega)); (focus omega); (focus (go_simp; try exact rfl)); (focus (go_simp; try exact rfl)); (focus (intro o; go_simp)); intro cc cc fz hl)
          have HW7 := Lib.hid (show Below w6.heap.size w6 w7 by ((with_reducible (repeat (first | exact bR _ _ | refine bS ?_ ?_ _ | refine bA ?_ ?_ _ | refine bD ?_ | refine bT ?_ (by assumption) ?_ | refine bO (by assumption) ?_ ?_))) <;> (first | omega | (simp; done) | (simp <;> omega))))
          replace HA := Lib.hid (HA.out.below HW7.out)
          replace HL := Lib.hid (HL.out.below HW7.out)
          replace HO := Lib.hid (HO.out.below HW7.out)
          have hz7 : w.heap.size ≤ w7.heap.size := by omega
          replace HB := Lib.hid (HB.out.trans (HW7.out.mono (by omega)))
          clear hb_w7 HW7
          go_wp2_with fail
          (refine pin_wp (N := _) (Nat.le_refl _) (fun w8 hb_w8 hz_w8 => ?_); (try simp at hz_w8); (with_reducible apply cel2 (b := w2.heap.size + 1) hb_w8); (focus ((try simp) <;> omega)); (focus omega); (focus (go_simp; try exact rfl)); (focus (go_simp; try exact rfl)); (focus (intro o; go_simp)); intro cc cc fz hl; (with_reducible apply cel2 (b := w4.heap.size) hb_w8); (focus ((try simp) <;> omega)); (focus omega); (focus (go_simp; try exact rfl)); (focus (go_simp; try exact rfl)); (focus (intro o; go_simp)); intro cc cc fz hl); refine wp_region_float w8.heap.size 9 (Nat.le_refl _) (fun _ => True) trivial Cl.tt (by kernel_rfl) (by simp) ?_
          have HW8 := Lib.hid (show Below w7.heap.size w7 w8 by ((with_reducible (repeat (first | exact bR _ _ | refine bS ?_ ?_ _ | refine bA ?_ ?_ _ | refine bD ?_ | refine bT ?_ (by assumption) ?_ | refine bO (by assumption) ?_ ?_))) <;> (first | omega | (simp; done) | (simp <;> omega))))
          replace HA := Lib.hid (HA.out.below HW8.out)
          replace HL := Lib.hid (HL.out.below HW8.out)
          replace HO := Lib.hid (HO.out.below HW8.out)
          have hz8 : w.heap.size ≤ w8.heap.size := by omega
          replace HB := Lib.hid (HB.out.trans (HW8.out.mono (by omega)))
          clear hb_w8 HW8
          refine wpI_start [0] ?_; (iterate 1 (first | (refine wpI_off rfl (by kernel_rfl) rfl (fun K hK => ?_); go_simp; refine hK _ ?_; clear hK K) | ((first | apply wpI_step rfl (by kernel_rfl) rfl | apply wpI_on rfl (by kernel_rfl) rfl); (focus (intro W' hS; have hcS := hS.cells.1; have hfS := hS.cells.2; go_simp; (first | done | exact rfl | exact ⟨rfl, Below.refl _ _⟩ | (go_simp; first | done | exact rfl | exact ⟨rfl, Below.refl _ _⟩)))); intro K hK; go_simp; (try go_bits); refine hK _ ?_; clear hK K))); refine wpI_nil ?_
          apply wpF_call (i := 1) rfl (by kernel_rfl) (by kernel_rfl); intro W hF hS; have hcS := hS.1.cells.1; have hfS := hS.1.cells.2; go_simp; (go_at_call 20; refine (iof_any 2 _ (by omega) (by omega)).mono ?_; rintro e w51 ⟨hb_w51, v51, rfl, hv51⟩; refine XPost.mk _ (fun W => IsC W v51 2) hb_w51 (hv51) (IsC.cl _ _) ?_); clear hb_w51 hcS hfS hS hF
          intro K hK; go_simp; (try go_bits); refine hK _ ?_; clear hK K
          clear hv51
          apply wpF_call (i := 2) rfl (by kernel_rfl) (by kernel_rfl); intro W hF hS; have hcS := hS.1.cells.1; have hfS := hS.1.cells.2; go_simp; (go_at_call 23; refine (K4.out _ _ _ (HA.out.below hS.1.2) (hF.zl l2)).mono ?_; rintro e w52 ⟨hb_w52, A52, c52, rfl, _, _⟩; refine XPost.mk _ (fun _ => True) hb_w52 (trivial) (Cl.tt) ?_); clear hb_w52 hcS hfS hS hF
          intro K hK; go_simp; (try go_bits); refine hK _ ?_; clear hK K
          refine wpI_start [3, 4, 5] ?_; (iterate 3 (first | (refine wpI_off rfl (by kernel_rfl) rfl (fun K hK => ?_); go_simp; refine hK _ ?_; clear hK K) | ((first | apply wpI_step rfl (by kernel_rfl) rfl | apply wpI_on rfl (by kernel_rfl) rfl); (focus (intro W' hS; have hcS := hS.cells.1; have hfS := hS.cells.2; go_simp; (first | done | exact rfl | exact ⟨rfl, Below.refl _ _⟩ | (go_simp; first | done | exact rfl | exact ⟨rfl, Below.refl _ _⟩)))); intro K hK; go_simp; (try go_bits); refine hK _ ?_; clear hK K))); refine wpI_nil ?_
          refine wpF_fresh2 (i := 6) (fun F G G' a h hL w' hF hS => hL w' hF (hS.same (fun p => (h p).symm))) rfl (by kernel_rfl) _ (by intro W; go_simp; first | done | exact rfl) ?_
          intro g_6 hN_6 hG_6 K hK
          go_simp; refine hK _ ?_; clear hK K
          apply wpF_wild (i := 7) rfl (by kernel_rfl) (by kernel_rfl); intro W hF hS; have hcS := hS.1.cells.1; have hfS := hS.1.cells.2; have k4 := C2.of_row (hS.2 _ (List.mem_cons_self ..)).2; have a0 := k4.1; have a1 := k4.2.1; have a2 := k4.2.2; have a3 := k4.lt; go_simp
          refine WPost.mk _ (fun _ => True) [] trivial Cl.tt ⟨(hS.1.setCell hN_6 _).setCell hN_6 _, fun p hp => by cases hp⟩ ?_
          clear k4 a0 a1 a2 a3 hcS hfS hS hF
          intro K hK; go_simp; refine hK _ ?_; clear hK K
          refine wpI_start [8] ?_; (iterate 1 (first | (refine wpI_off rfl (by kernel_rfl) rfl (fun K hK => ?_); go_simp; refine hK _ ?_; clear hK K) | ((first | apply wpI_step rfl (by kernel_rfl) rfl | apply wpI_on rfl (by kernel_rfl) rfl); (focus (intro W' hS; have hcS := hS.cells.1; have hfS := hS.cells.2; go_simp; (first | done | exact rfl | exact ⟨rfl, Below.refl _ _⟩ | (go_simp; first | done | exact rfl | exact ⟨rfl, Below.refl _ _⟩)))); intro K hK; go_simp; (try go_bits); refine hK _ ?_; clear hK K))); refine wpI_nil ?_
          refine wpF_done (by kernel_rfl) ?_
          intro w9 hF_w9 hSG
          have hz_w9 := hSG.1.1
          have hb_w9 := hSG.1.2
          clear hSG
          (with_reducible apply cel2 (b := w2.heap.size + 1) hb_w9); (focus ((try simp) <;> omega)); (focus omega); (focus (go_simp; try exact rfl)); (focus (go_simp; try exact rfl)); (focus (intro o; go_simp)); intro cc cc fz hl; (with_reducible apply cel2 (b := w4.heap.size) hb_w9); (focus ((try simp) <;> omega)); (focus omega); (focus (go_simp; try exact rfl)); (focus (go_simp; try exact rfl)); (focus (intro o; go_simp)); intro cc cc fz hl
          (try simp only [List.drop_succ_cons, List.drop_zero])
          clear hF_w9
          have HW9 := Lib.hid (show Below w8.heap.size w8 w9 by exact hb_w9)
          replace HA := Lib.hid (HA.out.below HW9.out)
          replace HL := Lib.hid (HL.out.below HW9.out)
          replace HO := Lib.hid (HO.out.below HW9.out)
          have hz9 : w.heap.size ≤ w9.heap.size := by omega
          replace HB := Lib.hid (HB.out.trans (HW9.out.mono (by omega)))
          clear hb_w9 HW9
          go_wp2_with fail
          (go_at_call 22; refine (K5.out _ _ _ (HA.out.below (Below.refl _ _)) ((HO.out.below (Below.refl _ _)).zl l1)).mono ?_; rintro e w10 ⟨hb_w10, _, _, _, _, rfl, _, _, _, _⟩; have hz_w10 := hb_w10.size; (try simp at hz_w10); (with_reducible apply cel2 (b := w2.heap.size + 1) hb_w10); (focus ((try simp) <;> omega)); (focus omega); (focus (go_simp; try exact rfl)); (focus (go_simp; try exact rfl)); (focus (intro o; go_simp)); intro cc cc fz hl; (with_reducible apply cel2 (b := w4.heap.size) hb_w10); (focus ((try simp) <;> omega)); (focus omega); (focus (go_simp; try exact rfl)); (focus (go_simp; try exact rfl)); (focus (intro o; go_simp)); intro cc cc fz hl)
          have HW10 := Lib.hid (show Below w9.heap.size w9 w10 by ((with_reducible (repeat (first | exact bR _ _ | refine bS ?_ ?_ _ | refine bA ?_ ?_ _ | refine bD ?_ | refine bT ?_ (by assumption) ?_ | refine bO (by assumption) ?_ ?_))) <;> (first | omega | (simp; done) | (simp <;> omega))))
          replace HA := Lib.hid (HA.out.below HW10.out)
          replace HL := Lib.hid (HL.out.below HW10.out)
          replace HO := Lib.hid (HO.out.below HW10.out)
          have hz10 : w.heap.size ≤ w10.heap.size := by omega
          replace HB := Lib.hid (HB.out.trans (HW10.out.mono (by omega)))
          clear hb_w10 HW10
          go_wp2_with fail
          (go_at_call 26; refine (K6.out _ _ _ (HA.out.below (((Below.refl _ _).alloc (Nat.le_refl _) _).alloc (by simp) _)) ((HO.out.below (((Below.refl _ _).alloc (Nat.le_refl _) _).alloc (by simp) _)).zl l1)).mono ?_; rintro e w11 ⟨hb_w11, _, _, rfl, _, _⟩; have hz_w11 := hb_w11.size; (try simp at hz_w11); (with_reducible apply cel2 (b := w2.heap.size + 1) hb_w11); (focus ((try simp) <;> omega)); (focus omega); (focus (go_simp; try exact rfl)); (focus (go_simp; try exact rfl)); (focus (intro o; go_simp)); intro cc cc fz hl; (with_reducible apply cel2 (b := w4.heap.size) hb_w11); (focus ((try simp) <;> omega)); (focus omega); (focus (go_simp; try exact rfl)); (focus (go_simp; try exact rfl)); (focus (intro o; go_simp)); intro cc cc fz hl)
          have HW11 := Lib.hid (show Below w10.heap.size w10 w11 by ((with_reducible (repeat (first | exact bR _ _ | refine bS ?_ ?_ _ | refine bA ?_ ?_ _ | refine bD ?_ | refine bT ?_ (by assumption) ?_ | refine bO (by assumption) ?_ ?_))) <;> (first | omega | (simp; done) | (simp <;> omega))))
          replace HA := Lib.hid (HA.out.below HW11.out)
          replace HL := Lib.hid (HL.out.below HW11.out)
          replace HO := Lib.hid (HO.out.below HW11.out)
          have hz11 : w.heap.size ≤ w11.heap.size := by omega
          replace HB := Lib.hid (HB.out.trans (HW11.out.mono (by omega)))
          clear hb_w11 HW11
          go_wp2_with fail
          (go_at_call 18; refine (K7.out _ _ (HA.out.below ((Below.refl _ _).alloc (Nat.le_refl _) _))).mono ?_; rintro e w12 ⟨hb_w12, _, _, rfl, _, _⟩; have hz_w12 := hb_w12.size; (try simp at hz_w12); (with_reducible apply cel2 (b := w2.heap.size + 1) hb_w12); (focus ((try simp) <;> omega)); (focus omega); (focus (go_simp; try exact rfl)); (focus (go_simp; try exact rfl)); (focus (intro o; go_simp)); intro cc cc fz hl; (with_reducible apply cel2 (b := w4.heap.size) hb_w12); (focus ((try simp) <;> omega)); (focus omega); (focus (go_simp; try exact rfl)); (focus (go_simp; try exact rfl)); (focus (intro o; go_simp)); intro cc cc fz hl)
          have HW12 := Lib.hid (show Below w11.heap.size w11 w12 by ((with_reducible (repeat (first | exact bR _ _ | refine bS ?_ ?_ _ | refine bA ?_ ?_ _ | refine bD ?_ | refine bT ?_ (by assumption) ?_ | refine bO (by assumption) ?_ ?_))) <;> (first | omega | (simp; done) | (simp <;> omega))))
          replace HA := Lib.hid (HA.out.below HW12.out)
          replace HL := Lib.hid (HL.out.below HW12.out)
          replace HO := Lib.hid (HO.out.below HW12.out)
          have hz12 : w.heap.size ≤ w12.heap.size := by omega
          replace HB := Lib.hid (HB.out.trans (HW12.out.mono (by omega)))
          clear hb_w12 HW12
          go_wp2_with fail
          (go_at_call 18; refine (K8.out _ _ (HA.out.below ((Below.refl _ _).alloc (Nat.le_refl _) _))).mono ?_; rintro e w13 ⟨hb_w13, _, _, rfl, _, _⟩; have hz_w13 := hb_w13.size; (try simp at hz_w13); (with_reducible apply cel2 (b := w2.heap.size + 1) hb_w13); (focus ((try simp) <;> omega)); (focus omega); (focus (go_simp; try exact rfl)); (focus (go_simp; try exact rfl)); (focus (intro o; go_simp)); intro cc cc fz hl; (with_reducible apply cel2 (b := w4.heap.size) hb_w13); (focus ((try simp) <;> omega)); (focus omega); (focus (go_simp; try exact rfl)); (focus (go_simp; try exact rfl)); (focus (intro o; go_simp)); intro cc cc fz hl)
          have HW13 := Lib.hid (show Below w12.heap.size w12 w13 by ((with_reducible (repeat (first | exact bR _ _ | refine bS ?_ ?_ _ | refine bA ?_ ?_ _ | refine bD ?_ | refine bT ?_ (by assumption) ?_ | refine bO (by assumption) ?_ ?_))) <;> (first | omega | (simp; done) | (simp <;> omega))))
          replace HA := Lib.hid (HA.out.below HW13.out)
          replace HL := Lib.hid (HL.out.below HW13.out)
          replace HO := Lib.hid (HO.out.below HW13.out)
          have hz13 : w.heap.size ≤ w13.heap.size := by omega
          replace HB := Lib.hid (HB.out.trans (HW13.out.mono (by omega)))
          clear hb_w13 HW13
          go_wp2_with fail
          (go_at_call 14; refine (K9.out _ _ (HA.out.below ((Below.refl _ _).alloc (Nat.le_refl _) _))).mono ?_; rintro e w14 ⟨rfl, hb_w14⟩; have hz_w14 := hb_w14.size; (try simp at hz_w14); (with_reducible apply cel2 (b := w2.heap.size + 1) hb_w14); (focus ((try simp) <;> omega)); (focus omega); (focus (go_simp; try exact rfl)); (focus (go_simp; try exact rfl)); (focus (intro o; go_simp)); intro cc cc fz hl; (with_reducible apply cel2 (b := w4.heap.size) hb_w14); (focus ((try simp) <;> omega)); (focus omega); (focus (go_simp; try exact rfl)); (focus (go_simp; try exact rfl)); (focus (intro o; go_simp)); intro cc cc fz hl)
          have HW14 := Lib.hid (show Below w13.heap.size w13 w14 by ((with_reducible (repeat (first | exact bR _ _ | refine bS ?_ ?_ _ | refine bA ?_ ?_ _ | refine bD ?_ | refine bT ?_ (by assumption) ?_ | refine bO (by assumption) ?_ ?_))) <;> (first | omega | (simp; done) | (simp <;> omega))))
          replace HA := Lib.hid (HA.out.below HW14.out)
          replace HL := Lib.hid (HL.out.below HW14.out)
          replace HO := Lib.hid (HO.out.below HW14.out)
          have hz14 : w.heap.size ≤ w14.heap.size := by omega
          replace HB := Lib.hid (HB.out.trans (HW14.out.mono (by omega)))
          clear hb_w14 HW14
          go_wp2_with (at_builtin; go_must (refine wpList_append_limbs rfl _ _ rfl w14.heap.size (.slice none 0 0) [] rfl (OwnL.nil _ _) (some ⟨w2.heap.size, 0, none⟩) k L (by rw [HLK.out]; rfl) (HL.out) (by rw [HLK.out, List.length_nil]; omega) (Nat.le_refl _) ?_))
          intro va wa howna hga
          have HWa := Lib.hid ((Below.refl w14.heap.size w14).grown hga (Nat.le_refl _) (by simp [Value.ownBlock]))
          obtain ⟨Aa, ca, rfl, hca, _, _⟩ := lat_of_own howna
          have HOa := Lib.hid howna
          have hza := HWa.out.size
          clear hga howna
          go_wp2_with (at_builtin; go_must (refine wpList_append_limbs rfl _ _ rfl w14.heap.size _ L rfl (HOa.out.alloc _) (some ⟨wa.heap.size, 0, none⟩) 2 [0, 0] rfl (lat_two (by simp) (by go_simp) (by go_simp)) (by have hq := HLK.out; simp; omega) (by simp; omega) ?_))
          intro vb wb hownb hgb
          have HWb := Lib.hid ((HWa.out.alloc hza (.cells #[.int .u32 0, .int .u32 0] 50)).grown hgb (by simp; omega) HOa.out.fresh)
          obtain ⟨Ab, cb, rfl, hcb, _, hAb⟩ := lat_of_own hownb
          have HT := Lib.hid (KT.out () Ab cb wb hcb hAb)
          have hb_wb := HWb.out
          have hz_wb : w14.heap.size ≤ wb.heap.size := HWb.out.size
          (with_reducible apply cel2 (b := w2.heap.size + 1) hb_wb); (focus ((try simp) <;> omega)); (focus omega); (focus (go_simp; try exact rfl)); (focus (go_simp; try exact rfl)); (focus (intro o; go_simp)); intro cc cc fz hl; (with_reducible apply cel2 (b := w4.heap.size) hb_wb); (focus ((try simp) <;> omega)); (focus omega); (focus (go_simp; try exact rfl)); (focus (go_simp; try exact rfl)); (focus (intro o; go_simp)); intro cc cc fz hl
          have HAb := Lib.hid (HA.out.below HWb.out)
          have HBb := Lib.hid (HB.out.trans (HWb.out.mono (by omega)))
          clear hgb hownb hAb hb_wb
          go_wp2_with fail
          (go_at_call 31; refine (HT.out).mono ?_; rintro e w70 ⟨hb_w70, A70, c70, rfl⟩; have hz_w70 := hb_w70.size; (try simp at hz_w70); (with_reducible apply cel2 (b := w2.heap.size + 1) hb_w70); (focus ((try simp) <;> omega)); (focus omega); (focus (go_simp; try exact rfl)); (focus (go_simp; try exact rfl)); (focus (intro o; go_simp)); intro cc cc fz hl; (with_reducible apply cel2 (b := w4.heap.size) hb_w70); (focus ((try simp) <;> omega)); (focus omega); (focus (go_simp; try exact rfl)); (focus (go_simp; try exact rfl)); (focus (intro o; go_simp)); intro cc cc fz hl)
          have HA70 := Lib.hid (HAb.out.below hb_w70)
          have HB70 := Lib.hid (HBb.out.trans (hb_w70.mono (by omega)))
          have hz70 : w.heap.size ≤ w70.heap.size := by omega
          clear hb_w70
          go_wp2_with fail
          -- own blocks besides: w70.heap.size:2
          (go_at_call 32; refine (K10.out _ _ (HA70.out.below ((Below.refl _ _).alloc (Nat.le_refl _) _))).mono ?_; rintro e w71 ⟨rfl, hb_w71⟩; have hz_w71 := hb_w71.size; (try simp at hz_w71); (with_reducible apply cel2 (b := w2.heap.size + 1) hb_w71); (focus ((try simp) <;> omega)); (focus omega); (focus (go_simp; try exact rfl)); (focus (go_simp; try exact rfl)); (focus (intro o; go_simp)); intro cc cc fz hl; (with_reducible apply cel2 (b := w4.heap.size) hb_w71); (focus ((try simp) <;> omega)); (focus omega); (focus (go_simp; try exact rfl)); (focus (go_simp; try exact rfl)); (focus (intro o; go_simp)); intro cc cc fz hl; (with_reducible apply cel2 (b := w70.heap.size) hb_w71); (focus ((try simp) <;> omega)); (focus omega); (focus (go_simp; try exact rfl)); (focus (go_simp; try exact rfl)); (focus (intro o; go_simp)); intro cc cc fz hl)
          have HW71 := Lib.hid (show Below w70.heap.size w70 w71 by ((with_reducible (repeat (first | exact bR _ _ | refine bS ?_ ?_ _ | refine bA ?_ ?_ _ | refine bD ?_ | refine bT ?_ (by assumption) ?_ | refine bO (by assumption) ?_ ?_))) <;> (first | omega | (simp; done) | (simp <;> omega))))
          go_wp2_with fail
          go_ret
          exact ⟨ret_bool (by first | rfl | simp | (simp; omega)), HB70.out.trans (HW71.out.mono hz70)⟩
        · by_cases h256 : k = 256
          · obtain rfl : Wc = 0 := by rw [hWc, if_neg (by omega)]
            obtain rfl : Mc = 2 := by rw [hMc, if_pos (by omega)]
            have n1 : ¬ (256 : Int) < (k : Int) := by omega
            have n2 : ((k : Int) == 256) = true := by simp; omega
            clear hWc hMc h255 h256
            obtain rfl : O = 1 := HO0.out
            have l1 : (canN (1 : Int).natAbs).length ≤ 300 := Nat.le_trans (lenZ_word (by omega) (by omega)) (by decide)
            have K1 := Lib.hid k1
            have K2 := Lib.hid k2
            have K3 := Lib.hid k3
            have K4 := Lib.hid k4
            have K5 := Lib.hid k5
            have K6 := Lib.hid k6
            have K7 := Lib.hid k7
            have K8 := Lib.hid k8
            have K9 := Lib.hid k9
            have K10 := Lib.hid k10
            clear k1 k2 k3 k4 k5 k6 k7 k8 k9 k10 HZO HF HPL HR HC HBE HO0
            -- own blocks: w2.heap.size + 1:2
            go_wp2_with fail
            (go_at_call 20; refine (iof_any 1 _ (by omega) (by omega)).mono ?_; rintro e w4 ⟨hb_w4, v4, rfl, hv4⟩; have hz_w4 := hb_w4.size; (try simp at hz_w4); (with_reducible apply cel2 (b := w2.heap.size + 1) hb_w4); (focus ((try simp) <;> omega)); (focus omega); (focus (go_simp; try exact rfl)); (focus (go_simp; try exact rfl)); (focus (intro o; go_simp)); intro cc cc fz hl)
            have HW4 := Lib.hid (show Below w3.heap.size w3 w4 by ((with_reducible (repeat (first | exact bR _ _ | refine bS ?_ ?_ _ | refine bA ?_ ?_ _ | refine bD ?_ | refine bT ?_ (by assumption) ?_ | refine bO (by assumption) ?_ ?_))) <;> (first | omega | (simp; done) | (simp <;> omega))))
            have HO := Lib.hid hv4
            replace HA := Lib.hid (HA.out.below HW4.out)
            replace HL := Lib.hid (HL.out.below HW4.out)
            have hz4 : w.heap.size ≤ w4.heap.size := by omega
            replace HB := Lib.hid (HB.out.trans (HW4.out.mono (by omega)))
            clear hb_w4 HW4 hv4
            obtain ⟨AO, cO, eO, _, _⟩ := HO.out
            subst eO
            go_wp2_with fail
            -- own blocks besides: w4.heap.size:2
            (go_at_call 24; refine (K1.out _ _ _ (HA.out.below ((Below.refl _ _).alloc (Nat.le_refl _) _)) ((HO.out.below ((Below.refl _ _).alloc (Nat.le_refl _) _)).zl l1)).mono ?_; rintro e w5 ⟨hb_w5, _, _, rfl, _, _⟩; have hz_w5 := hb_w5.size; (try simp at hz_w5); (with_reducible apply cel2 (b := w2.heap.size + 1) hb_w5); (focus ((try simp) <;> omega)); (focus omega); (focus (go_simp; try exact rfl)); (focus (go_simp; try exact rfl)); (focus (intro o; go_simp)); intro cc cc fz hl; (with_reducible apply cel2 (b := w4.heap.size) hb_w5); (focus ((try simp) <;> omega)); (focus omega); (focus (go_simp; try exact rfl)); (focus (go_simp; try exact rfl)); (focus (intro o; go_simp)); intro cc cc fz hl)
            have HW5 := Lib.hid (show Below w4.heap.size w4 w5 by ((with_reducible (repeat (first | exact bR _ _ | refine bS ?_ ?_ _ | refine bA ?_ ?_ _ | refine bD ?_ | refine bT ?_ (by assumption) ?_ | refine bO (by assumption) ?_ ?_))) <;> (first | omega | (simp; done) | (simp <;> omega))))
            replace HA := Lib.hid (HA.out.below HW5.out)
            replace HL := Lib.hid (HL.out.below HW5.out)
            replace HO := Lib.hid (HO.out.below HW5.out)
            have hz5 : w.heap.size ≤ w5.heap.size := by omega
            replace HB := Lib.hid (HB.out.trans (HW5.out.mono (by omega)))
            clear hb_w5 HW5
            go_wp2_with fail
            (go_at_call 19; refine (K2.out _ _ _ (HA.out.below ((Below.refl _ _).alloc (Nat.le_refl _) _)) ((HO.out.below ((Below.refl _ _).alloc (Nat.le_refl _) _)).zl l1)).mono ?_; rintro e w6 ⟨hb_w6, _, _, rfl, _, _⟩; have hz_w6 := hb_w6.size; (try simp at hz_w6); (with_reducible apply cel2 (b := w2.heap.size + 1) hb_w6); (focus ((try simp) <;> omega)); (focus omega); (focus (go_simp; try exact rfl)); (focus (go_simp; try exact rfl)); (focus (intro o; go_simp)); intro cc cc fz hl; (with_reducible apply cel2 (b := w4.heap.size) hb_w6); (focus ((try simp) <;> omega)); (focus omega); (focus (go_simp; try exact rfl)); (focus (go_simp; try exact rfl)); (focus (intro o; go_simp)); intro cc cc fz hl)
            have HW6 := Lib.hid (show Below w5.heap.size w5 w6 by ((with_reducible (repeat (first | exact bR _ _ | refine bS ?_ ?_ _ | refine bA ?_ ?_ _ | refine bD ?_ | refine bT ?_ (by assumption) ?_ | refine bO (by assumption) ?_ ?_))) <;> (first | omega | (simp; done) | (simp <;> omega))))
            replace HA := Lib.hid (HA.out.below HW6.out)
            replace HL := Lib.hid (HL.out.below HW6.out)
            replace HO := Lib.hid (HO.out.below HW6.out)
            have hz6 : w.heap.size ≤ w6.heap.size := by omega
            replace HB := Lib.hid (HB.out.trans (HW6.out.mono (by omega)))
            clear hb_w6 HW6
            go_wp2_with fail
            (go_at_call 23; refine (K3.out _ _ _ (HA.out.below ((Below.refl _ _).alloc (Nat.le_refl _) _)) ((HO.out.below ((Below.refl _ _).alloc (Nat.le_refl _) _)).zl l1)).mono ?_; rintro e w7 ⟨hb_w7, _, _, rfl, _, _⟩; have hz_w7 := hb_w7.size; (try simp at hz_w7); (with_reducible apply cel2 (b := w2.heap.size + 1) hb_w7); (focus ((try simp) <;> omega)); (focus omega); (focus (go_simp; try exact rfl)); (focus (go_simp; try exact rfl)); (focus (intro o; go_simp)); intro cc cc fz hl; (with_reducible apply cel2 (b := w4.heap.size) hb_w7); (focus ((try simp) <;> omega)); (focus omega); (focus (go_simp; try exact rfl)); (focus (go_simp; try exact rfl)); (focus (intro o; go_simp)); intro cc cc fz hl)
            have HW7 := Lib.hid (show Below w6.heap.size w6 w7 by ((with_reducible (repeat (first | exact bR _ _ | refine bS ?_ ?_ _ | refine bA ?_ ?_ _ | refine bD ?_ | refine bT ?_ (by assumption) ?_ | refine bO (by assumption) ?_ ?_))) <;> (first | omega | (simp; done) | (simp <;> omega))))
            replace HA := Lib.hid (HA.out.below HW7.out)
            replace HL := Lib.hid (HL.out.below HW7.out)
            replace HO := Lib.hid (HO.out.below HW7.out)
            have hz7 : w.heap.size ≤ w7.heap.size := by omega
            replace HB := Lib.hid (HB.out.trans (HW7.out.mono (by omega)))
            clear hb_w7 HW7
            go_wp2_with fail
            (refine pin_wp (N := _) (Nat.le_refl _) (fun w8 hb_w8 hz_w8 => ?_); (try simp at hz_w8); (with_reducible apply cel2 (b := w2.heap.size + 1) hb_w8); (focus ((try simp) <;> omega)); (focus omega); (focus (go_simp; try exact rfl)); (focus (go_simp; try exact rfl)); (focus (intro o; go_simp)); intro cc cc fz hl; (with_reducible apply cel2 (b := w4.heap.size) hb_w8); (focus ((try simp) <;> omega)); (focus omega); (focus (go_simp; try exact rfl)); (focus (go_simp; try exact rfl)); (focus (intro o; go_simp)); intro cc cc fz hl); refine wp_region_float w8.heap.size 9 (Nat.le_refl _) (fun _ => True) trivial Cl.tt (by kernel_rfl) (by simp) ?_
            have HW8 := Lib.hid (show Below w7.heap.size w7 w8 by ((with_reducible (repeat (first | exact bR _ _ | refine bS ?_ ?_ _ | refine bA ?_ ?_ _ | refine bD ?_ | refine bT ?_ (by assumption) ?_ | refine bO (by assumption) ?_ ?_))) <;> (first | omega | (simp; done) | (simp <;> omega))))
            replace HA := Lib.hid (HA.out.below HW8.out)
            replace HL := Lib.hid (HL.out.below HW8.out)
            replace HO := Lib.hid (HO.out.below HW8.out)
            have hz8 : w.heap.size ≤ w8.heap.size := by omega
            replace HB := Lib.hid (HB.out.trans (HW8.out.mono (by omega)))
            clear hb_w8 HW8
            refine wpI_start [0] ?_; (iterate 1 (first | (refine wpI_off rfl (by kernel_rfl) rfl (fun K hK => ?_); go_simp; refine hK _ ?_; clear hK K) | ((first | apply wpI_step rfl (by kernel_rfl) rfl | apply wpI_on rfl (by kernel_rfl) rfl); (focus (intro W' hS; have hcS := hS.cells.1; have hfS := hS.cells.2; go_simp; (first | done | exact rfl | exact ⟨rfl, Below.refl _ _⟩ | (go_simp; first | done | exact rfl | exact ⟨rfl, Below.refl _ _⟩)))); intro K hK; go_simp; (try go_bits); refine hK _ ?_; clear hK K))); refine wpI_nil ?_
            apply wpF_call (i := 1) rfl (by kernel_rfl) (by kernel_rfl); intro W hF hS; have hcS := hS.1.cells.1; have hfS := hS.1.cells.2; go_simp; (go_at_call 20; refine (iof_any 2 _ (by omega) (by omega)).mono ?_; rintro e w51 ⟨hb_w51, v51, rfl, hv51⟩; refine XPost.mk _ (fun W => IsC W v51 2) hb_w51 (hv51) (IsC.cl _ _) ?_); clear hb_w51 hcS hfS hS hF
            intro K hK; go_simp; (try go_bits); refine hK _ ?_; clear hK K
            clear hv51
            apply wpF_call (i := 2) rfl (by kernel_rfl) (by kernel_rfl); intro W hF hS; have hcS := hS.1.cells.1; have hfS := hS.1.cells.2; go_simp; (go_at_call 23; refine (K4.out _ _ _ (HA.out.below hS.1.2) (hF.zl l2)).mono ?_; rintro e w52 ⟨hb_w52, A52, c52, rfl, _, _⟩; refine XPost.mk _ (fun _ => True) hb_w52 (trivial) (Cl.tt) ?_); clear hb_w52 hcS hfS hS hF
            intro K hK; go_simp; (try go_bits); refine hK _ ?_; clear hK K
            refine wpI_start [3, 4, 5] ?_; (iterate 3 (first | (refine wpI_off rfl (by kernel_rfl) rfl (fun K hK => ?_); go_simp; refine hK _ ?_; clear hK K) | ((first | apply wpI_step rfl (by kernel_rfl) rfl | apply wpI_on rfl (by kernel_rfl) rfl); (focus (intro W' hS; have hcS := hS.cells.1; have hfS := hS.cells.2; go_simp; (first | done | exact rfl | exact ⟨rfl, Below.refl _ _⟩ | (go_simp; first | done | exact rfl | exact ⟨rfl, Below.refl _ _⟩)))); intro K hK; go_simp; (try go_bits); refine hK _ ?_; clear hK K))); refine wpI_nil ?_
            refine wpF_fresh2 (i := 6) (fun F G G' a h hL w' hF hS => hL w' hF (hS.same (fun p => (h p).symm))) rfl (by kernel_rfl) _ (by intro W; go_simp; first | done | exact rfl) ?_
            intro g_6 hN_6 hG_6 K hK
            go_simp; refine hK _ ?_; clear hK K
            apply wpF_wild (i := 7) rfl (by kernel_rfl) (by kernel_rfl); intro W hF hS; have hcS := hS.1.cells.1; have hfS := hS.1.cells.2; have k4 := C2.of_row (hS.2 _ (List.mem_cons_self ..)).2; have a0 := k4.1; have a1 := k4.2.1; have a2 := k4.2.2; have a3 := k4.lt; go_simp
            refine WPost.mk _ (fun _ => True) [] trivial Cl.tt ⟨(hS.1.setCell hN_6 _).setCell hN_6 _, fun p hp => by cases hp⟩ ?_
            clear k4 a0 a1 a2 a3 hcS hfS hS hF
            intro K hK; go_simp; refine hK _ ?_; clear hK K
            refine wpI_start [8] ?_; (iterate 1 (first | (refine wpI_off rfl (by kernel_rfl) rfl (fun K hK => ?_); go_simp; refine hK _ ?_; clear hK K) | ((first | apply wpI_step rfl (by kernel_rfl) rfl | apply wpI_on rfl (by kernel_rfl) rfl); (focus (intro W' hS; have hcS := hS.cells.1; have hfS := hS.cells.2; go_simp; (first | done | exact rfl | exact ⟨rfl, Below.refl _ _⟩ | (go_simp; first | done | exact rfl | exact ⟨rfl, Below.refl _ _⟩)))); intro K hK; go_simp; (try go_bits); refine hK _ ?_; clear hK K))); refine wpI_nil ?_
            refine wpF_done (by kernel_rfl) ?_
            intro w9 hF_w9 hSG
            have hz_w9 := hSG.1.1
            have hb_w9 := hSG.1.2
            clear hSG
            (with_reducible apply cel2 (b := w2.heap.size + 1) hb_w9); (focus ((try simp) <;> omega)); (focus omega); (focus (go_simp; try exact rfl)); (focus (go_simp; try exact rfl)); (focus (intro o; go_simp)); intro cc cc fz hl; (with_reducible apply cel2 (b := w4.heap.size) hb_w9); (focus ((try simp) <;> omega)); (focus omega); (focus (go_simp; try exact rfl)); (focus (go_simp; try exact rfl)); (focus (intro o; go_simp)); intro cc cc fz hl
            (try simp only [List.drop_succ_cons, List.drop_zero])
            clear hF_w9
            have HW9 := Lib.hid (show Below w8.heap.size w8 w9 by exact hb_w9)
            replace HA := Lib.hid (HA.out.below HW9.out)
            replace HL := Lib.hid (HL.out.below HW9.out)
            replace HO := Lib.hid (HO.out.below HW9.out)
            have hz9 : w.heap.size ≤ w9.heap.size := by omega
            replace HB := Lib.hid (HB.out.trans (HW9.out.mono (by omega)))
            clear hb_w9 HW9
            go_wp2_with fail
            (go_at_call 22; refine (K5.out _ _ _ (HA.out.below (Below.refl _ _)) ((HO.out.below (Below.refl _ _)).zl l1)).mono ?_; rintro e w10 ⟨hb_w10, _, _, _, _, rfl, _, _, _, _⟩; have hz_w10 := hb_w10.size; (try simp at hz_w10); (with_reducible apply cel2 (b := w2.heap.size + 1) hb_w10); (focus ((try simp) <;> omega)); (focus omega); (focus (go_simp; try exact rfl)); (focus (go_simp; try exact rfl)); (focus (intro o; go_simp)); intro cc cc fz hl; (with_reducible apply cel2 (b := w4.heap.size) hb_w10); (focus ((try simp) <;> omega)); (focus omega); (focus (go_simp; try exact rfl)); (focus (go_simp; try exact rfl)); (focus (intro o; go_simp)); intro cc cc fz hl)
            have HW10 := Lib.hid (show Below w9.heap.size w9 w10 by ((with_reducible (repeat (first | exact bR _ _ | refine bS ?_ ?_ _ | refine bA ?_ ?_ _ | refine bD ?_ | refine bT ?_ (by assumption) ?_ | refine bO (by assumption) ?_ ?_))) <;> (first | omega | (simp; done) | (simp <;> omega))))
            replace HA := Lib.hid (HA.out.below HW10.out)
            replace HL := Lib.hid (HL.out.below HW10.out)
            replace HO := Lib.hid (HO.out.below HW10.out)
            have hz10 : w.heap.size ≤ w10.heap.size := by omega
            replace HB := Lib.hid (HB.out.trans (HW10.out.mono (by omega)))
            clear hb_w10 HW10
            go_wp2_with fail
            (go_at_call 26; refine (K6.out _ _ _ (HA.out.below (((Below.refl _ _).alloc (Nat.le_refl _) _).alloc (by simp) _)) ((HO.out.below (((Below.refl _ _).alloc (Nat.le_refl _) _).alloc (by simp) _)).zl l1)).mono ?_; rintro e w11 ⟨hb_w11, _, _, rfl, _, _⟩; have hz_w11 := hb_w11.size; (try simp at hz_w11); (with_reducible apply cel2 (b := w2.heap.size + 1) hb_w11); (focus ((try simp) <;> omega)); (focus omega); (focus (go_simp; try exact rfl)); (focus (go_simp; try exact rfl)); (focus (intro o; go_simp)); intro cc cc fz hl; (with_reducible apply cel2 (b := w4.heap.size) hb_w11); (focus ((try simp) <;> omega)); (focus omega); (focus (go_simp; try exact rfl)); (focus (go_simp; try exact rfl)); (focus (intro o; go_simp)); intro cc cc fz hl)
            have HW11 := Lib.hid (show Below w10.heap.size w10 w11 by ((with_reducible (repeat (first | exact bR _ _ | refine bS ?_ ?_ _ | refine bA ?_ ?_ _ | refine bD ?_ | refine bT ?_ (by assumption) ?_ | refine bO (by assumption) ?_ ?_))) <;> (first | omega | (simp; done) | (simp <;> omega))))
            replace HA := Lib.hid (HA.out.below HW11.out)
            replace HL := Lib.hid (HL.out.below HW11.out)
            replace HO := Lib.hid (HO.out.below HW11.out)
            have hz11 : w.heap.size ≤ w11.heap.size := by omega
            replace HB := Lib.hid (HB.out.trans (HW11.out.mono (by omega)))
            clear hb_w11 HW11
            go_wp2_with fail
            (go_at_call 18; refine (K7.out _ _ (HA.out.below ((Below.refl _ _).alloc (Nat.le_refl _) _))).mono ?_; rintro e w12 ⟨hb_w12, _, _, rfl, _, _⟩; have hz_w12 := hb_w12.size; (try simp at hz_w12); (with_reducible apply cel2 (b := w2.heap.size + 1) hb_w12); (focus ((try simp) <;> omega)); (focus omega); (focus (go_simp; try exact rfl)); (focus (go_simp; try exact rfl)); (focus (intro o; go_simp)); intro cc cc fz hl; (with_reducible apply cel2 (b := w4.heap.size) hb_w12); (focus ((try simp) <;> omega)); (focus omega); (focus (go_simp; try exact rfl)); (focus (go_simp; try exact rfl)); (focus (intro o; go_simp)); intro cc cc fz hl)
            have HW12 := Lib.hid (show Below w11.heap.size w11 w12 by ((with_reducible (repeat (first | exact bR _ _ | refine bS ?_ ?_ _ | refine bA ?_ ?_ _ | refine bD ?_ | refine bT ?_ (by assumption) ?_ | refine bO (by assumption) ?_ ?_))) <;> (first | omega | (simp; done) | (simp <;> omega))))
            replace HA := Lib.hid (HA.out.below HW12.out)
            replace HL := Lib.hid (HL.out.below HW12.out)
            replace HO := Lib.hid (HO.out.below HW12.out)
            have hz12 : w.heap.size ≤ w12.heap.size := by omega
            replace HB := Lib.hid (HB.out.trans (HW12.out.mono (by omega)))
            clear hb_w12 HW12
            go_wp2_with fail
            (go_at_call 18; refine (K8.out _ _ (HA.out.below ((Below.refl _ _).alloc (Nat.le_refl _) _))).mono ?_; rintro e w13 ⟨hb_w13, _, _, rfl, _, _⟩; have hz_w13 := hb_w13.size; (try simp at hz_w13); (with_reducible apply cel2 (b := w2.heap.size + 1) hb_w13); (focus ((try simp) <;> omega)); (focus omega); (focus (go_simp; try exact rfl)); (focus (go_simp; try exact rfl)); (focus (intro o; go_simp)); intro cc cc fz hl; (with_reducible apply cel2 (b := w4.heap.size) hb_w13); (focus ((try simp) <;> omega)); (focus omega); (focus (go_simp; try exact rfl)); (focus (go_simp; try exact rfl)); (focus (intro o; go_simp)); intro cc cc fz hl)
            have HW13 := Lib.hid (show Below w12.heap.size w12 w13 by ((with_reducible (repeat (first | exact bR _ _ | refine bS ?_ ?_ _ | refine bA ?_ ?_ _ | refine bD ?_ | refine bT ?_ (by assumption) ?_ | refine bO (by assumption) ?_ ?_))) <;> (first | omega | (simp; done) | (simp <;> omega))))
            replace HA := Lib.hid (HA.out.below HW13.out)
            replace HL := Lib.hid (HL.out.below HW13.out)
            replace HO := Lib.hid (HO.out.below HW13.out)
            have hz13 : w.heap.size ≤ w13.heap.size := by omega
            replace HB := Lib.hid (HB.out.trans (HW13.out.mono (by omega)))
            clear hb_w13 HW13
            go_wp2_with fail
            (go_at_call 14; refine (K9.out _ _ (HA.out.below ((Below.refl _ _).alloc (Nat.le_refl _) _))).mono ?_; rintro e w14 ⟨rfl, hb_w14⟩; have hz_w14 := hb_w14.size; (try simp at hz_w14); (with_reducible apply cel2 (b := w2.heap.size + 1) hb_w14); (focus ((try simp) <;> omega)); (focus omega); (focus (go_simp; try exact rfl)); (focus (go_simp; try exact rfl)); (focus (intro o; go_simp)); intro cc cc fz hl; (with_reducible apply cel2 (b := w4.heap.size) hb_w14); (focus ((try simp) <;> omega)); (focus omega); (focus (go_simp; try exact rfl)); (focus (go_simp; try exact rfl)); (focus (intro o; go_simp)); intro cc cc fz hl)
            have HW14 := Lib.hid (show Below w13.heap.size w13 w14 by ((with_reducible (repeat (first | exact bR _ _ | refine bS ?_ ?_ _ | refine bA ?_ ?_ _ | refine bD ?_ | refine bT ?_ (by assumption) ?_ | refine bO (by assumption) ?_ ?_))) <;> (first | omega | (simp; done) | (simp <;> omega))))
            replace HA := Lib.hid (HA.out.below HW14.out)
            replace HL := Lib.hid (HL.out.below HW14.out)
            replace HO := Lib.hid (HO.out.below HW14.out)
            have hz14 : w.heap.size ≤ w14.heap.size := by omega
            replace HB := Lib.hid (HB.out.trans (HW14.out.mono (by omega)))
            clear hb_w14 HW14
            go_wp2_with (at_builtin; go_must (refine wpList_append_limbs rfl _ _ rfl w14.heap.size (.slice none 0 0) [] rfl (OwnL.nil _ _) (some ⟨w2.heap.size, 0, none⟩) k L (by rw [HLK.out]; rfl) (HL.out) (by rw [HLK.out, List.length_nil]; omega) (Nat.le_refl _) ?_))
            intro va wa howna hga
            have HWa := Lib.hid ((Below.refl w14.heap.size w14).grown hga (Nat.le_refl _) (by simp [Value.ownBlock]))
            obtain ⟨Aa, ca, rfl, hca, _, _⟩ := lat_of_own howna
            have HOa := Lib.hid howna
            have hza := HWa.out.size
            clear hga howna
            go_wp2_with (at_builtin; go_must (refine wpList_append_limbs rfl _ _ rfl w14.heap.size _ L rfl (HOa.out.alloc _) (some ⟨wa.heap.size, 0, none⟩) 2 [0, 0] rfl (lat_two (by simp) (by go_simp) (by go_simp)) (by have hq := HLK.out; simp; omega) (by simp; omega) ?_))
            intro vb wb hownb hgb
            have HWb := Lib.hid ((HWa.out.alloc hza (.cells #[.int .u32 0, .int .u32 0] 50)).grown hgb (by simp; omega) HOa.out.fresh)
            obtain ⟨Ab, cb, rfl, hcb, _, hAb⟩ := lat_of_own hownb
            have HT := Lib.hid (KT.out () Ab cb wb hcb hAb)
            have hb_wb := HWb.out
            have hz_wb : w14.heap.size ≤ wb.heap.size := HWb.out.size
            (with_reducible apply cel2 (b := w2.heap.size + 1) hb_wb); (focus ((try simp) <;> omega)); (focus omega); (focus (go_simp; try exact rfl)); (focus (go_simp; try exact rfl)); (focus (intro o; go_simp)); intro cc cc fz hl; (with_reducible apply cel2 (b := w4.heap.size) hb_wb); (focus ((try simp) <;> omega)); (focus omega); (focus (go_simp; try exact rfl)); (focus (go_simp; try exact rfl)); (focus (intro o; go_simp)); intro cc cc fz hl
            have HAb := Lib.hid (HA.out.below HWb.out)
            have HBb := Lib.hid (HB.out.trans (HWb.out.mono (by omega)))
            clear hgb hownb hAb hb_wb
            go_wp2_with fail
            (go_at_call 31; refine (HT.out).mono ?_; rintro e w70 ⟨hb_w70, A70, c70, rfl⟩; have hz_w70 := hb_w70.size; (try simp at hz_w70); (with_reducible apply cel2 (b := w2.heap.size + 1) hb_w70); (focus ((try simp) <;> omega)); (focus omega); (focus (go_simp; try exact rfl)); (focus (go_simp; try exact rfl)); (focus (intro o; go_simp)); intro cc cc fz hl; (with_reducible apply cel2 (b := w4.heap.size) hb_w70); (focus ((try simp) <;> omega)); (focus omega); (focus (go_simp; try exact rfl)); (focus (go_simp; try exact rfl)); (focus (intro o; go_simp)); intro cc cc fz hl)
            have HA70 := Lib.hid (HAb.out.below hb_w70)
            have HB70 := Lib.hid (HBb.out.trans (hb_w70.mono (by omega)))
            have hz70 : w.heap.size ≤ w70.heap.size := by omega
            clear hb_w70
            go_wp2_with fail
            -- own blocks besides: w70.heap.size:2
            (go_at_call 32; refine (K10.out _ _ (HA70.out.below ((Below.refl _ _).alloc (Nat.le_refl _) _))).mono ?_; rintro e w71 ⟨rfl, hb_w71⟩; have hz_w71 := hb_w71.size; (try simp at hz_w71); (with_reducible apply cel2 (b := w2.heap.size + 1) hb_w71); (focus ((try simp) <;> omega)); (focus omega); (focus (go_simp; try exact rfl)); (focus (go_simp; try exact rfl)); (focus (intro o; go_simp)); intro cc cc fz hl; (with_reducible apply cel2 (b := w4.heap.size) hb_w71); (focus ((try simp) <;> omega)); (focus omega); (focus (go_simp; try exact rfl)); (focus (go_simp; try exact rfl)); (focus (intro o; go_simp)); intro cc cc fz hl; (with_reducible apply cel2 (b := w70.heap.size) hb_w71); (focus ((try simp) <;> omega)); (focus omega); (focus (go_simp; try exact rfl)); (focus (go_simp; try exact rfl)); (focus (intro o; go_simp)); intro cc cc fz hl)
            have HW71 := Lib.hid (show Below w70.heap.size w70 w71 by ((with_reducible (repeat (first | exact bR _ _ | refine bS ?_ ?_ _ | refine bA ?_ ?_ _ | refine bD ?_ | refine bT ?_ (by assumption) ?_ | refine bO (by assumption) ?_ ?_))) <;> (first | omega | (simp; done) | (simp <;> omega))))
            go_wp2_with fail
            go_ret
            exact ⟨ret_bool (by first | rfl | simp | (simp; omega)), HB70.out.trans (HW71.out.mono hz70)⟩
          · obtain rfl : Wc = 2 := by rw [hWc, if_pos (by omega)]
            obtain rfl : Mc = 2 := by rw [hMc, if_pos (by omega)]
            have n1 : (256 : Int) < (k : Int) := by omega
            have n2 : ((k : Int) == 256) = false := by simp; omega
            clear hWc hMc h255 h256
            obtain rfl : O = 1 := HO0.out
            have l1 : (canN (1 : Int).natAbs).length ≤ 300 := Nat.le_trans (lenZ_word (by omega) (by omega)) (by decide)
            have K1 := Lib.hid k1
            have K2 := Lib.hid k2
            have K3 := Lib.hid k3
            have K4 := Lib.hid k4
            have K5 := Lib.hid k5
            have K6 := Lib.hid k6
            have K7 := Lib.hid k7
            have K8 := Lib.hid k8
            have K9 := Lib.hid k9
            have K10 := Lib.hid k10
            clear k1 k2 k3 k4 k5 k6 k7 k8 k9 k10 HZO HF HPL HR HC HBE HO0
            -- own blocks: w2.heap.size + 1:2
            go_wp2_with fail
            (go_at_call 20; refine (iof_any 1 _ (by omega) (by omega)).mono ?_; rintro e w4 ⟨hb_w4, v4, rfl, hv4⟩; have hz_w4 := hb_w4.size; (try simp at hz_w4); (with_reducible apply cel2 (b := w2.heap.size + 1) hb_w4); (focus ((try simp) <;> omega)); (focus omega); (focus (go_simp; try exact rfl)); (focus (go_simp; try exact rfl)); (focus (intro o; go_simp)); intro cc cc fz hl)
            have HW4 := Lib.hid (show Below w3.heap.size w3 w4 by ((with_reducible (repeat (first | exact bR _ _ | refine bS ?_ ?_ _ | refine bA ?_ ?_ _ | refine bD ?_ | refine bT ?_ (by assumption) ?_ | refine bO (by assumption) ?_ ?_))) <;> (first | omega | (simp; done) | (simp <;> omega))))
            have HO := Lib.hid hv4
            replace HA := Lib.hid (HA.out.below HW4.out)
            replace HL := Lib.hid (HL.out.below HW4.out)
            have hz4 : w.heap.size ≤ w4.heap.size := by omega
            replace HB := Lib.hid (HB.out.trans (HW4.out.mono (by omega)))
            clear hb_w4 HW4 hv4
            obtain ⟨AO, cO, eO, _, _⟩ := HO.out
            subst eO
            go_wp2_with fail
            -- own blocks besides: w4.heap.size:2
            (go_at_call 24; refine (K1.out _ _ _ (HA.out.below ((Below.refl _ _).alloc (Nat.le_refl _) _)) ((HO.out.below ((Below.refl _ _).alloc (Nat.le_refl _) _)).zl l1)).mono ?_; rintro e w5 ⟨hb_w5, _, _, rfl, _, _⟩; have hz_w5 := hb_w5.size; (try simp at hz_w5); (with_reducible apply cel2 (b := w2.heap.size + 1) hb_w5); (focus ((try simp) <;> omega)); (focus omega); (focus (go_simp; try exact rfl)); (focus (go_simp; try exact rfl)); (focus (intro o; go_simp)); intro cc cc fz hl; (with_reducible apply cel2 (b := w4.heap.size) hb_w5); (focus ((try simp) <;> omega)); (focus omega); (focus (go_simp; try exact rfl)); (focus (go_simp; try exact rfl)); (focus (intro o; go_simp)); intro cc cc fz hl)
            have HW5 := Lib.hid (show Below w4.heap.size w4 w5 by ((with_reducible (repeat (first | exact bR _ _ | refine bS ?_ ?_ _ | refine bA ?_ ?_ _ | refine bD ?_ | refine bT ?_ (by assumption) ?_ | refine bO (by assumption) ?_ ?_))) <;> (first | omega | (simp; done) | (simp <;> omega))))
            replace HA := Lib.hid (HA.out.below HW5.out)
            replace HL := Lib.hid (HL.out.below HW5.out)
            replace HO := Lib.hid (HO.out.below HW5.out)
            have hz5 : w.heap.size ≤ w5.heap.size := by omega
            replace HB := Lib.hid (HB.out.trans (HW5.out.mono (by omega)))
            clear hb_w5 HW5
            go_wp2_with fail
            (go_at_call 19; refine (K2.out _ _ _ (HA.out.below ((Below.refl _ _).alloc (Nat.le_refl _) _)) ((HO.out.below ((Below.refl _ _).alloc (Nat.le_refl _) _)).zl l1)).mono ?_; rintro e w6 ⟨hb_w6, _, _, rfl, _, _⟩; have hz_w6 := hb_w6.size; (try simp at hz_w6); (with_reducible apply cel2 (b := w2.heap.size + 1) hb_w6); (focus ((try simp) <;> omega)); (focus omega); (focus (go_simp; try exact rfl)); (focus (go_simp; try exact rfl)); (focus (intro o; go_simp)); intro cc cc fz hl; (with_reducible apply cel2 (b := w4.heap.size) hb_w6); (focus ((try simp) <;> omega)); (focus omega); (focus (go_simp; try exact rfl)); (focus (go_simp; try exact rfl)); (focus (intro o; go_simp)); intro cc cc fz hl)
            have HW6 := Lib.hid (show Below w5.heap.size w5 w6 by ((with_reducible (repeat (first | exact bR _ _ | refine bS ?_ ?_ _ | refine bA ?_ ?_ _ | refine bD ?_ | refine bT ?_ (by assumption) ?_ | refine bO (by assumption) ?_ ?_))) <;> (first | omega | (simp; done) | (simp <;> omega))))
            replace HA := Lib.hid (HA.out.below HW6.out)
            replace HL := Lib.hid (HL.out.below HW6.out)
            replace HO := Lib.hid (HO.out.below HW6.out)
            have hz6 : w.heap.size ≤ w6.heap.size := by omega
            replace HB := Lib.hid (HB.out.trans (HW6.out.mono (by omega)))
            clear hb_w6 HW6
            go_wp2_with fail
            (go_at_call 23; refine (K3.out _ _ _ (HA.out.below ((Below.refl _ _).alloc (Nat.le_refl _) _)) ((HO.out.below ((Below.refl _ _).alloc (Nat.le_refl _) _)).zl l1)).mono ?_; rintro e w7 ⟨hb_w7, _, _, rfl, _, _⟩; have hz_w7 := hb_w7.size; (try simp at hz_w7); (with_reducible apply cel2 (b := w2.heap.size + 1) hb_w7); (focus ((try simp) <;> omega)); (focus omega); (focus (go_simp; try exact rfl)); (focus (go_simp; try exact rfl)); (focus (intro o; go_simp)); intro cc cc fz hl; (with_reducible apply cel2 (b := w4.heap.size) hb_w7); (focus ((try simp) <;> omega)); (focus omega); (focus (go_simp; try exact rfl)); (focus (go_simp; try exact rfl)); (focus (intro o; go_simp)); intro cc cc fz hl)
            have HW7 := Lib.hid (show Below w6.heap.size w6 w7 by ((with_reducible (repeat (first | exact bR _ _ | refine bS ?_ ?_ _ | refine bA ?_ ?_ _ | refine bD ?_ | refine bT ?_ (by assumption) ?_ | refine bO (by assumption) ?_ ?_))) <;> (first | omega | (simp; done) | (simp <;> omega))))
            replace HA := Lib.hid (HA.out.below HW7.out)
            replace HL := Lib.hid (HL.out.below HW7.out)
            replace HO := Lib.hid (HO.out.below HW7.out)
            have hz7 : w.heap.size ≤ w7.heap.size := by omega
            replace HB := Lib.hid (HB.out.trans (HW7.out.mono (by omega)))
            clear hb_w7 HW7
            go_wp2_with fail
            (refine pin_wp (N := _) (Nat.le_refl _) (fun w8 hb_w8 hz_w8 => ?_); (try simp at hz_w8); (with_reducible apply cel2 (b := w2.heap.size + 1) hb_w8); (focus ((try simp) <;> omega)); (focus omega); (focus (go_simp; try exact rfl)); (focus (go_simp; try exact rfl)); (focus (intro o; go_simp)); intro cc cc fz hl; (with_reducible apply cel2 (b := w4.heap.size) hb_w8); (focus ((try simp) <;> omega)); (focus omega); (focus (go_simp; try exact rfl)); (focus (go_simp; try exact rfl)); (focus (intro o; go_simp)); intro cc cc fz hl); refine wp_region_float w8.heap.size 9 (Nat.le_refl _) (fun _ => True) trivial Cl.tt (by kernel_rfl) (by simp) ?_
            have HW8 := Lib.hid (show Below w7.heap.size w7 w8 by ((with_reducible (repeat (first | exact bR _ _ | refine bS ?_ ?_ _ | refine bA ?_ ?_ _ | refine bD ?_ | refine bT ?_ (by assumption) ?_ | refine bO (by assumption) ?_ ?_))) <;> (first | omega | (simp; done) | (simp <;> omega))))
            replace HA := Lib.hid (HA.out.below HW8.out)
            replace HL := Lib.hid (HL.out.below HW8.out)
            replace HO := Lib.hid (HO.out.below HW8.out)
            have hz8 : w.heap.size ≤ w8.heap.size := by omega
            replace HB := Lib.hid (HB.out.trans (HW8.out.mono (by omega)))
            clear hb_w8 HW8
            refine wpI_start [0] ?_; (iterate 1 (first | (refine wpI_off rfl (by kernel_rfl) rfl (fun K hK => ?_); go_simp; refine hK _ ?_; clear hK K) | ((first | apply wpI_step rfl (by kernel_rfl) rfl | apply wpI_on rfl (by kernel_rfl) rfl); (focus (intro W' hS; have hcS := hS.cells.1; have hfS := hS.cells.2; go_simp; (first | done | exact rfl | exact ⟨rfl, Below.refl _ _⟩ | (go_simp; first | done | exact rfl | exact ⟨rfl, Below.refl _ _⟩)))); intro K hK; go_simp; (try go_bits); refine hK _ ?_; clear hK K))); refine wpI_nil ?_
            apply wpF_call (i := 1) rfl (by kernel_rfl) (by kernel_rfl); intro W hF hS; have hcS := hS.1.cells.1; have hfS := hS.1.cells.2; go_simp; (go_at_call 20; refine (iof_any 2 _ (by omega) (by omega)).mono ?_; rintro e w51 ⟨hb_w51, v51, rfl, hv51⟩; refine XPost.mk _ (fun W => IsC W v51 2) hb_w51 (hv51) (IsC.cl _ _) ?_); clear hb_w51 hcS hfS hS hF
            intro K hK; go_simp; (try go_bits); refine hK _ ?_; clear hK K
            clear hv51
            apply wpF_call (i := 2) rfl (by kernel_rfl) (by kernel_rfl); intro W hF hS; have hcS := hS.1.cells.1; have hfS := hS.1.cells.2; go_simp; (go_at_call 23; refine (K4.out _ _ _ (HA.out.below hS.1.2) (hF.zl l2)).mono ?_; rintro e w52 ⟨hb_w52, A52, c52, rfl, _, _⟩; refine XPost.mk _ (fun _ => True) hb_w52 (trivial) (Cl.tt) ?_); clear hb_w52 hcS hfS hS hF
            intro K hK; go_simp; (try go_bits); refine hK _ ?_; clear hK K
            refine wpI_start [3, 4, 5] ?_; (iterate 3 (first | (refine wpI_off rfl (by kernel_rfl) rfl (fun K hK => ?_); go_simp; refine hK _ ?_; clear hK K) | ((first | apply wpI_step rfl (by kernel_rfl) rfl | apply wpI_on rfl (by kernel_rfl) rfl); (focus (intro W' hS; have hcS := hS.cells.1; have hfS := hS.cells.2; go_simp; (first | done | exact rfl | exact ⟨rfl, Below.refl _ _⟩ | (go_simp; first | done | exact rfl | exact ⟨rfl, Below.refl _ _⟩)))); intro K hK; go_simp; (try go_bits); refine hK _ ?_; clear hK K))); refine wpI_nil ?_
            refine wpF_fresh2 (i := 6) (fun F G G' a h hL w' hF hS => hL w' hF (hS.same (fun p => (h p).symm))) rfl (by kernel_rfl) _ (by intro W; go_simp; first | done | exact rfl) ?_
            intro g_6 hN_6 hG_6 K hK
            go_simp; refine hK _ ?_; clear hK K
            apply wpF_wild (i := 7) rfl (by kernel_rfl) (by kernel_rfl); intro W hF hS; have hcS := hS.1.cells.1; have hfS := hS.1.cells.2; have k4 := C2.of_row (hS.2 _ (List.mem_cons_self ..)).2; have a0 := k4.1; have a1 := k4.2.1; have a2 := k4.2.2; have a3 := k4.lt; go_simp
            refine WPost.mk _ (fun _ => True) [] trivial Cl.tt ⟨(hS.1.setCell hN_6 _).setCell hN_6 _, fun p hp => by cases hp⟩ ?_
            clear k4 a0 a1 a2 a3 hcS hfS hS hF
            intro K hK; go_simp; refine hK _ ?_; clear hK K
            refine wpI_start [8] ?_; (iterate 1 (first | (refine wpI_off rfl (by kernel_rfl) rfl (fun K hK => ?_); go_simp; refine hK _ ?_; clear hK K) | ((first | apply wpI_step rfl (by kernel_rfl) rfl | apply wpI_on rfl (by kernel_rfl) rfl); (focus (intro W' hS; have hcS := hS.cells.1; have hfS := hS.cells.2; go_simp; (first | done | exact rfl | exact ⟨rfl, Below.refl _ _⟩ | (go_simp; first | done | exact rfl | exact ⟨rfl, Below.refl _ _⟩)))); intro K hK; go_simp; (try go_bits); refine hK _ ?_; clear hK K))); refine wpI_nil ?_
            refine wpF_done (by kernel_rfl) ?_
            intro w9 hF_w9 hSG
            have hz_w9 := hSG.1.1
            have hb_w9 := hSG.1.2
            clear hSG
            (with_reducible apply cel2 (b := w2.heap.size + 1) hb_w9); (focus ((try simp) <;> omega)); (focus omega); (focus (go_simp; try exact rfl)); (focus (go_simp; try exact rfl)); (focus (intro o; go_simp)); intro cc cc fz hl; (with_reducible apply cel2 (b := w4.heap.size) hb_w9); (focus ((try simp) <;> omega)); (focus omega); (focus (go_simp; try exact rfl)); (focus (go_simp; try exact rfl)); (focus (intro o; go_simp)); intro cc cc fz hl
            (try simp only [List.drop_succ_cons, List.drop_zero])
            clear hF_w9
            have HW9 := Lib.hid (show Below w8.heap.size w8 w9 by exact hb_w9)
            replace HA := Lib.hid (HA.out.below HW9.out)
            replace HL := Lib.hid (HL.out.below HW9.out)
            replace HO := Lib.hid (HO.out.below HW9.out)
            have hz9 : w.heap.size ≤ w9.heap.size := by omega
            replace HB := Lib.hid (HB.out.trans (HW9.out.mono (by omega)))
            clear hb_w9 HW9
            go_wp2_with fail
            (go_at_call 22; refine (K5.out _ _ _ (HA.out.below (Below.refl _ _)) ((HO.out.below (Below.refl _ _)).zl l1)).mono ?_; rintro e w10 ⟨hb_w10, _, _, _, _, rfl, _, _, _, _⟩; have hz_w10 := hb_w10.size; (try simp at hz_w10); (with_reducible apply cel2 (b := w2.heap.size + 1) hb_w10); (focus ((try simp) <;> omega)); (focus omega); (focus (go_simp; try exact rfl)); (focus (go_simp; try exact rfl)); (focus (intro o; go_simp)); intro cc cc fz hl; (with_reducible apply cel2 (b := w4.heap.size) hb_w10); (focus ((try simp) <;> omega)); (focus omega); (focus (go_simp; try exact rfl)); (focus (go_simp; try exact rfl)); (focus (intro o; go_simp)); intro cc cc fz hl)
            have HW10 := Lib.hid (show Below w9.heap.size w9 w10 by ((with_reducible (repeat (first | exact bR _ _ | refine bS ?_ ?_ _ | refine bA ?_ ?_ _ | refine bD ?_ | refine bT ?_ (by assumption) ?_ | refine bO (by assumption) ?_ ?_))) <;> (first | omega | (simp; done) | (simp <;> omega))))
            replace HA := Lib.hid (HA.out.below HW10.out)
            replace HL := Lib.hid (HL.out.below HW10.out)
            replace HO := Lib.hid (HO.out.below HW10.out)
            have hz10 : w.heap.size ≤ w10.heap.size := by omega
            replace HB := Lib.hid (HB.out.trans (HW10.out.mono (by omega)))
            clear hb_w10 HW10
            go_wp2_with fail
            (go_at_call 26; refine (K6.out _ _ _ (HA.out.below (((Below.refl _ _).alloc (Nat.le_refl _) _).alloc (by simp) _)) ((HO.out.below (((Below.refl _ _).alloc (Nat.le_refl _) _).alloc (by simp) _)).zl l1)).mono ?_; rintro e w11 ⟨hb_w11, _, _, rfl, _, _⟩; have hz_w11 := hb_w11.size; (try simp at hz_w11); (with_reducible apply cel2 (b := w2.heap.size + 1) hb_w11); (focus ((try simp) <;> omega)); (focus omega); (focus (go_simp; try exact rfl)); (focus (go_simp; try exact rfl)); (focus (intro o; go_simp)); intro cc cc fz hl; (with_reducible apply cel2 (b := w4.heap.size) hb_w11); (focus ((try simp) <;> omega)); (focus omega); (focus (go_simp; try exact rfl)); (focus (go_simp; try exact rfl)); (focus (intro o; go_simp)); intro cc cc fz hl)
            have HW11 := Lib.hid (show Below w10.heap.size w10 w11 by ((with_reducible (repeat (first | exact bR _ _ | refine bS ?_ ?_ _ | refine bA ?_ ?_ _ | refine bD ?_ | refine bT ?_ (by assumption) ?_ | refine bO (by assumption) ?_ ?_))) <;> (first | omega | (simp; done) | (simp <;> omega))))
            replace HA := Lib.hid (HA.out.below HW11.out)
            replace HL := Lib.hid (HL.out.below HW11.out)
            replace HO := Lib.hid (HO.out.below HW11.out)
            have hz11 : w.heap.size ≤ w11.heap.size := by omega
            replace HB := Lib.hid (HB.out.trans (HW11.out.mono (by omega)))
            clear hb_w11 HW11
            go_wp2_with fail
            (go_at_call 18; refine (K7.out _ _ (HA.out.below ((Below.refl _ _).alloc (Nat.le_refl _) _))).mono ?_; rintro e w12 ⟨hb_w12, _, _, rfl, _, _⟩; have hz_w12 := hb_w12.size; (try simp at hz_w12); (with_reducible apply cel2 (b := w2.heap.size + 1) hb_w12); (focus ((try simp) <;> omega)); (focus omega); (focus (go_simp; try exact rfl)); (focus (go_simp; try exact rfl)); (focus (intro o; go_simp)); intro cc cc fz hl; (with_reducible apply cel2 (b := w4.heap.size) hb_w12); (focus ((try simp) <;> omega)); (focus omega); (focus (go_simp; try exact rfl)); (focus (go_simp; try exact rfl)); (focus (intro o; go_simp)); intro cc cc fz hl)
            have HW12 := Lib.hid (show Below w11.heap.size w11 w12 by ((with_reducible (repeat (first | exact bR _ _ | refine bS ?_ ?_ _ | refine bA ?_ ?_ _ | refine bD ?_ | refine bT ?_ (by assumption) ?_ | refine bO (by assumption) ?_ ?_))) <;> (first | omega | (simp; done) | (simp <;> omega))))
            replace HA := Lib.hid (HA.out.below HW12.out)
            replace HL := Lib.hid (HL.out.below HW12.out)
            replace HO := Lib.hid (HO.out.below HW12.out)
            have hz12 : w.heap.size ≤ w12.heap.size := by omega
            replace HB := Lib.hid (HB.out.trans (HW12.out.mono (by omega)))
            clear hb_w12 HW12
            go_wp2_with fail
            (go_at_call 18; refine (K8.out _ _ (HA.out.below ((Below.refl _ _).alloc (Nat.le_refl _) _))).mono ?_; rintro e w13 ⟨hb_w13, _, _, rfl, _, _⟩; have hz_w13 := hb_w13.size; (try simp at hz_w13); (with_reducible apply cel2 (b := w2.heap.size + 1) hb_w13); (focus ((try simp) <;> omega)); (focus omega); (focus (go_simp; try exact rfl)); (focus (go_simp; try exact rfl)); (focus (intro o; go_simp)); intro cc cc fz hl; (with_reducible apply cel2 (b := w4.heap.size) hb_w13); (focus ((try simp) <;> omega)); (focus omega); (focus (go_simp; try exact rfl)); (focus (go_simp; try exact rfl)); (focus (intro o; go_simp)); intro cc cc fz hl)
            have HW13 := Lib.hid (show Below w12.heap.size w12 w13 by ((with_reducible (repeat (first | exact bR _ _ | refine bS ?_ ?_ _ | refine bA ?_ ?_ _ | refine bD ?_ | refine bT ?_ (by assumption) ?_ | refine bO (by assumption) ?_ ?_))) <;> (first | omega | (simp; done) | (simp <;> omega))))
            replace HA := Lib.hid (HA.out.below HW13.out)
            replace HL := Lib.hid (HL.out.below HW13.out)
            replace HO := Lib.hid (HO.out.below HW13.out)
            have hz13 : w.heap.size ≤ w13.heap.size := by omega
            replace HB := Lib.hid (HB.out.trans (HW13.out.mono (by omega)))
            clear hb_w13 HW13
            go_wp2_with fail
            (go_at_call 14; refine (K9.out _ _ (HA.out.below ((Below.refl _ _).alloc (Nat.le_refl _) _))).mono ?_; rintro e w14 ⟨rfl, hb_w14⟩; have hz_w14 := hb_w14.size; (try simp at hz_w14); (with_reducible apply cel2 (b := w2.heap.size + 1) hb_w14); (focus ((try simp) <;> omega)); (focus omega); (focus (go_simp; try exact rfl)); (focus (go_simp; try exact rfl)); (focus (intro o; go_simp)); intro cc cc fz hl; (with_reducible apply cel2 (b := w4.heap.size) hb_w14); (focus ((try simp) <;> omega)); (focus omega); (focus (go_simp; try exact rfl)); (focus (go_simp; try exact rfl)); (focus (intro o; go_simp)); intro cc cc fz hl)
            have HW14 := Lib.hid (show Below w13.heap.size w13 w14 by ((with_reducible (repeat (first | exact bR _ _ | refine bS ?_ ?_ _ | refine bA ?_ ?_ _ | refine bD ?_ | refine bT ?_ (by assumption) ?_ | refine bO (by assumption) ?_ ?_))) <;> (first | omega | (simp; done) | (simp <;> omega))))
            replace HA := Lib.hid (HA.out.below HW14.out)
            replace HL := Lib.hid (HL.out.below HW14.out)
            replace HO := Lib.hid (HO.out.below HW14.out)
            have hz14 : w.heap.size ≤ w14.heap.size := by omega
            replace HB := Lib.hid (HB.out.trans (HW14.out.mono (by omega)))
            clear hb_w14 HW14
            go_wp2_with (at_builtin; go_must (refine wpList_append_limbs rfl _ _ rfl w14.heap.size (.slice none 0 0) [] rfl (OwnL.nil _ _) (some ⟨w2.heap.size, 0, none⟩) k L (by rw [HLK.out]; rfl) (HL.out) (by rw [HLK.out, List.length_nil]; omega) (Nat.le_refl _) ?_))
            intro va wa howna hga
            have HWa := Lib.hid ((Below.refl w14.heap.size w14).grown hga (Nat.le_refl _) (by simp [Value.ownBlock]))
            obtain ⟨Aa, ca, rfl, hca, _, _⟩ := lat_of_own howna
            have HOa := Lib.hid howna
            have hza := HWa.out.size
            clear hga howna
            go_wp2_with (at_builtin; go_must (refine wpList_append_limbs rfl _ _ rfl w14.heap.size _ L rfl (HOa.out.alloc _) (some ⟨wa.heap.size, 0, none⟩) 2 [0, 0] rfl (lat_two (by simp) (by go_simp) (by go_simp)) (by have hq := HLK.out; simp; omega) (by simp; omega) ?_))
            intro vb wb hownb hgb
            have HWb := Lib.hid ((HWa.out.alloc hza (.cells #[.int .u32 0, .int .u32 0] 50)).grown hgb (by simp; omega) HOa.out.fresh)
            obtain ⟨Ab, cb, rfl, hcb, _, hAb⟩ := lat_of_own hownb
            have HT := Lib.hid (KT.out () Ab cb wb hcb hAb)
            have hb_wb := HWb.out
            have hz_wb : w14.heap.size ≤ wb.heap.size := HWb.out.size
            (with_reducible apply cel2 (b := w2.heap.size + 1) hb_wb); (focus ((try simp) <;> omega)); (focus omega); (focus (go_simp; try exact rfl)); (focus (go_simp; try exact rfl)); (focus (intro o; go_simp)); intro cc cc fz hl; (with_reducible apply cel2 (b := w4.heap.size) hb_wb); (focus ((try simp) <;> omega)); (focus omega); (focus (go_simp; try exact rfl)); (focus (go_simp; try exact rfl)); (focus (intro o; go_simp)); intro cc cc fz hl
            have HAb := Lib.hid (HA.out.below HWb.out)
            have HBb := Lib.hid (HB.out.trans (HWb.out.mono (by omega)))
            clear hgb hownb hAb hb_wb
            go_wp2_with fail
            (go_at_call 31; refine (HT.out).mono ?_; rintro e w70 ⟨hb_w70, A70, c70, rfl⟩; have hz_w70 := hb_w70.size; (try simp at hz_w70); (with_reducible apply cel2 (b := w2.heap.size + 1) hb_w70); (focus ((try simp) <;> omega)); (focus omega); (focus (go_simp; try exact rfl)); (focus (go_simp; try exact rfl)); (focus (intro o; go_simp)); intro cc cc fz hl; (with_reducible apply cel2 (b := w4.heap.size) hb_w70); (focus ((try simp) <;> omega)); (focus omega); (focus (go_simp; try exact rfl)); (focus (go_simp; try exact rfl)); (focus (intro o; go_simp)); intro cc cc fz hl)
            have HA70 := Lib.hid (HAb.out.below hb_w70)
            have HB70 := Lib.hid (HBb.out.trans (hb_w70.mono (by omega)))
            have hz70 : w.heap.size ≤ w70.heap.size := by omega
            clear hb_w70
            go_wp2_with fail
            -- own blocks besides: w70.heap.size:2
            (go_at_call 32; refine (K10.out _ _ (HA70.out.below ((Below.refl _ _).alloc (Nat.le_refl _) _))).mono ?_; rintro e w71 ⟨rfl, hb_w71⟩; have hz_w71 := hb_w71.size; (try simp at hz_w71); (with_reducible apply cel2 (b := w2.heap.size + 1) hb_w71); (focus ((try simp) <;> omega)); (focus omega); (focus (go_simp; try exact rfl)); (focus (go_simp; try exact rfl)); (focus (intro o; go_simp)); intro cc cc fz hl; (with_reducible apply cel2 (b := w4.heap.size) hb_w71); (focus ((try simp) <;> omega)); (focus omega); (focus (go_simp; try exact rfl)); (focus (go_simp; try exact rfl)); (focus (intro o; go_simp)); intro cc cc fz hl; (with_reducible apply cel2 (b := w70.heap.size) hb_w71); (focus ((try simp) <;> omega)); (focus omega); (focus (go_simp; try exact rfl)); (focus (go_simp; try exact rfl)); (focus (intro o; go_simp)); intro cc cc fz hl)
            have HW71 := Lib.hid (show Below w70.heap.size w70 w71 by ((with_reducible (repeat (first | exact bR _ _ | refine bS ?_ ?_ _ | refine bA ?_ ?_ _ | refine bD ?_ | refine bT ?_ (by assumption) ?_ | refine bO (by assumption) ?_ ?_))) <;> (first | omega | (simp; done) | (simp <;> omega))))
            go_wp2_with fail
            go_ret
            exact ⟨ret_bool (by first | rfl | simp | (simp; omega)), HB70.out.trans (HW71.out.mono hz70)⟩
      · -- the sign True
        by_cases h255 : k ≤ 255
        · obtain rfl : Wc = 0 := by rw [hWc, if_neg (by omega)]
          obtain rfl : Mc = 0 := by rw [hMc, if_neg (by omega)]
          have n1 : ¬ (256 : Int) < (k : Int) := by omega
          have n2 : ((k : Int) == 256) = false := by simp; omega
          clear hWc hMc h255
          obtain rfl : O = -1 := HO0.out
          have l1 : (canN (-1 : Int).natAbs).length ≤ 300 := Nat.le_trans (lenZ_word (by omega) (by omega)) (by decide)
          have K1 := Lib.hid k1
          have K2 := Lib.hid k2
          have K3 := Lib.hid k3
          have K4 := Lib.hid k4
          have K5 := Lib.hid k5
          have K6 := Lib.hid k6
          have K7 := Lib.hid k7
          have K8 := Lib.hid k8
          have K9 := Lib.hid k9
          have K10 := Lib.hid k10
          clear k1 k2 k3 k4 k5 k6 k7 k8 k9 k10 HZO HF HPL HR HC HBE HO0
          -- own blocks: w2.heap.size + 1:2
          go_wp2_with fail
          (go_at_call 20; refine (iof_any 1 _ (by omega) (by omega)).mono ?_; rintro e w4 ⟨hb_w4, v4, rfl, hv4⟩; have hz_w4 := hb_w4.size; (try simp at hz_w4); (with_reducible apply cel2 (b := w2.heap.size + 1) hb_w4); (focus ((try simp) <;> omega)); (focus omega); (focus (go_simp; try exact rfl)); (focus (go_simp; try exact rfl)); (focus (intro o; go_simp)); intro cc cc fz hl)
          have HW4 := Lib.hid (show Below w3.heap.size w3 w4 by ((with_reducible (repeat (first | exact bR _ _ | refine bS ?_ ?_ _ | refine bA ?_ ?_ _ | refine bD ?_ | refine bT ?_ (by assumption) ?_ | refine bO (by assumption) ?_ ?_))) <;> (first | omega | (simp; done) | (simp <;> omega))))
          have HO := Lib.hid hv4
          replace HA := Lib.hid (HA.out.below HW4.out)
          replace HL := Lib.hid (HL.out.below HW4.out)
          have hz4 : w.heap.size ≤ w4.heap.size := by omega
          replace HB := Lib.hid (HB.out.trans (HW4.out.mono (by omega)))
          clear hb_w4 HW4 hv4
          obtain ⟨AO, cO, eO, _, _⟩ := HO.out
          subst eO
          go_wp2_with fail
          -- own blocks besides: w4.heap.size:2
          (go_at_call 20; refine (iof_any (-1) _ (by omega) (by omega)).mono ?_; rintro e w5 ⟨hb_w5, v5, rfl, hv5⟩; have hz_w5 := hb_w5.size; (try simp at hz_w5); (with_reducible apply cel2 (b := w2.heap.size + 1) hb_w5); (focus ((try simp) <;> omega)); (focus omega); (focus (go_simp; try exact rfl)); (focus (go_simp; try exact rfl)); (focus (intro o; go_simp)); intro cc cc fz hl; (with_reducible apply cel2 (b := w4.heap.size) hb_w5); (focus ((try simp) <;> omega)); (focus omega); (focus (go_simp; try exact rfl)); (focus (go_simp; try exact rfl)); (focus (intro o; go_simp)); intro cc cc fz hl)
          have HW5 := Lib.hid (show Below w4.heap.size w4 w5 by ((with_reducible (repeat (first | exact bR _ _ | refine bS ?_ ?_ _ | refine bA ?_ ?_ _ | refine bD ?_ | refine bT ?_ (by assumption) ?_ | refine bO (by assumption) ?_ ?_))) <;> (first | omega | (simp; done) | (simp <;> omega))))
          have HN := Lib.hid hv5
          replace HA := Lib.hid (HA.out.below HW5.out)
          replace HL := Lib.hid (HL.out.below HW5.out)
          replace HO := Lib.hid (HO.out.below HW5.out)
          have hz5 : w.heap.size ≤ w5.heap.size := by omega
          replace HB := Lib.hid (HB.out.trans (HW5.out.mono (by omega)))
          clear hb_w5 HW5 hv5
          obtain ⟨AN, cN, eN, _, _⟩ := HN.out
          subst eN
          go_wp2_with fail
          (go_at_call 24; refine (K1.out _ _ _ (HA.out.set2 (by assumption) (by assumption) _ _) ((HN.out.set2 (by assumption) (by assumption) _ _).zl l1)).mono ?_; rintro e w6 ⟨hb_w6, _, _, rfl, _, _⟩; have hz_w6 := hb_w6.size; (try simp at hz_w6); (with_reducible apply cel2 (b := w2.heap.size + 1) hb_w6); (focus ((try simp) <;> omega)); (focus omega); (focus (go_simp; try exact rfl)); (focus (go_simp; try exact rfl)); (focus (intro o; go_simp)); intro cc cc fz hl; (with_reducible apply cel2 (b := w4.heap.size) hb_w6); (focus ((try simp) <;> omega)); (focus omega); (focus (go_simp; try exact rfl)); (focus (go_simp; try exact rfl)); (focus (intro o; go_simp)); intro cc cc fz hl)
          replace HA := Lib.hid ((HA.out.set2 (by assumption) (by assumption) _ _).below hb_w6)
          replace HL := Lib.hid ((HL.out.set2 (by assumption) (by assumption) _ _).below hb_w6)
          replace HN := Lib.hid ((HN.out.set2 (by assumption) (by assumption) _ _).below hb_w6)
          replace HB := Lib.hid (show Below w.heap.size w w6 by (have hbo := HB.out; ((with_reducible (repeat (first | exact bR _ _ | refine bS ?_ ?_ _ | refine bA ?_ ?_ _ | refine bD ?_ | refine bT ?_ (by assumption) ?_ | refine bO (by assumption) ?_ ?_))) <;> (first | omega | (simp; done) | (simp <;> omega)))))
          have hz6 : w.heap.size ≤ w6.heap.size := HB.out.size
          clear hb_w6
          go_wp2_with fail
          (go_at_call 19; refine (K2.out _ _ _ (HA.out.below ((Below.refl _ _).alloc (Nat.le_refl _) _)) ((HN.out.below ((Below.refl _ _).alloc (Nat.le_refl _) _)).zl l1)).mono ?_; rintro e w7 ⟨hb_w7, _, _, rfl, _, _⟩; have hz_w7 := hb_w7.size; (try simp at hz_w7); (with_reducible apply cel2 (b := w2.heap.size + 1) hb_w7); (focus ((try simp) <;> omega)); (focus omega); (focus (go_simp; try exact rfl)); (focus (go_simp; try exact rfl)); (focus (intro o; go_simp)); intro cc cc fz hl; (with_reducible apply cel2 (b := w4.heap.size) hb_w7); (focus ((try simp) <;> omega)); (focus omega); (focus (go_simp; try exact rfl)); (focus (go_simp; try exact rfl)); (focus (intro o; go_simp)); intro cc cc fz hl)
          have HW7 := Lib.hid (show Below w6.heap.size w6 w7 by ((with_reducible (repeat (first | exact bR _ _ | refine bS ?_ ?_ _ | refine bA ?_ ?_ _ | refine bD ?_ | refine bT ?_ (by assumption) ?_ | refine bO (by assumption) ?_ ?_))) <;> (first | omega | (simp; done) | (simp <;> omega))))
          replace HA := Lib.hid (HA.out.below HW7.out)
          replace HL := Lib.hid (HL.out.below HW7.out)
          replace HN := Lib.hid (HN.out.below HW7.out)
          have hz7 : w.heap.size ≤ w7.heap.size := by omega
          replace HB := Lib.hid (HB.out.trans (HW7.out.mono (by omega)))
          clear hb_w7 HW7
          go_wp2_with fail
          (go_at_call 23; refine (K3.out _ _ _ (HA.out.below ((Below.refl _ _).alloc (Nat.le_refl _) _)) ((HN.out.below ((Below.refl _ _).alloc (Nat.le_refl _) _)).zl l1)).mono ?_; rintro e w8 ⟨hb_w8, _, _, rfl, _, _⟩; have hz_w8 := hb_w8.size; (try simp at hz_w8); (with_reducible apply cel2 (b := w2.heap.size + 1) hb_w8); (focus ((try simp) <;> omega)); (focus omega); (focus (go_simp; try exact rfl)); (focus (go_simp; try exact rfl)); (focus (intro o; go_simp)); intro cc cc fz hl; (with_reducible apply cel2 (b := w4.heap.size) hb_w8); (focus ((try simp) <;> omega)); (focus omega); (focus (go_simp; try exact rfl)); (focus (go_simp; try exact rfl)); (focus (intro o; go_simp)); intro cc cc fz hl)
          have HW8 := Lib.hid (show Below w7.heap.size w7 w8 by ((with_reducible (repeat (first | exact bR _ _ | refine bS ?_ ?_ _ | refine bA ?_ ?_ _ | refine bD ?_ | refine bT ?_ (by assumption) ?_ | refine bO (by assumption) ?_ ?_))) <;> (first | omega | (simp; done) | (simp <;> omega))))
          replace HA := Lib.hid (HA.out.below HW8.out)
          replace HL := Lib.hid (HL.out.below HW8.out)
          replace HN := Lib.hid (HN.out.below HW8.out)
          have hz8 : w.heap.size ≤ w8.heap.size := by omega
          replace HB := Lib.hid (HB.out.trans (HW8.out.mono (by omega)))
          clear hb_w8 HW8
          go_wp2_with fail
          (refine pin_wp (N := _) (Nat.le_refl _) (fun w9 hb_w9 hz_w9 => ?_); (try simp at hz_w9); (with_reducible apply cel2 (b := w2.heap.size + 1) hb_w9); (focus ((try simp) <;> omega)); (focus omega); (focus (go_simp; try exact rfl)); (focus (go_simp; try exact rfl)); (focus (intro o; go_simp)); intro cc cc fz hl; (with_reducible apply cel2 (b := w4.heap.size) hb_w9); (focus ((try simp) <;> omega)); (focus omega); (focus (go_simp; try exact rfl)); (focus (go_simp; try exact rfl)); (focus (intro o; go_simp)); intro cc cc fz hl); refine wp_region_float w9.heap.size 9 (Nat.le_refl _) (fun _ => True) trivial Cl.tt (by kernel_rfl) (by simp) ?_
          have HW9 := Lib.hid (show Below w8.heap.size w8 w9 by ((with_reducible (repeat (first | exact bR _ _ | refine bS ?_ ?_ _ | refine bA ?_ ?_ _ | refine bD ?_ | refine bT ?_ (by assumption) ?_ | refine bO (by assumption) ?_ ?_))) <;> (first | omega | (simp; done) | (simp <;> omega))))
          replace HA := Lib.hid (HA.out.below HW9.out)
          replace HL := Lib.hid (HL.out.below HW9.out)
          replace HN := Lib.hid (HN.out.below HW9.out)
          have hz9 : w.heap.size ≤ w9.heap.size := by omega
          replace HB := Lib.hid (HB.out.trans (HW9.out.mono (by omega)))
          clear hb_w9 HW9
          refine wpI_start [0] ?_; (iterate 1 (first | (refine wpI_off rfl (by kernel_rfl) rfl (fun K hK => ?_); go_simp; refine hK _ ?_; clear hK K) | ((first | apply wpI_step rfl (by kernel_rfl) rfl | apply wpI_on rfl (by kernel_rfl) rfl); (focus (intro W' hS; have hcS := hS.cells.1; have hfS := hS.cells.2; go_simp; (first | done | exact rfl | exact ⟨rfl, Below.refl _ _⟩ | (go_simp; first | done | exact rfl | exact ⟨rfl, Below.refl _ _⟩)))); intro K hK; go_simp; (try go_bits); refine hK _ ?_; clear hK K))); refine wpI_nil ?_
          apply wpF_call (i := 1) rfl (by kernel_rfl) (by kernel_rfl); intro W hF hS; have hcS := hS.1.cells.1; have hfS := hS.1.cells.2; go_simp; (go_at_call 20; refine (iof_any 2 _ (by omega) (by omega)).mono ?_; rintro e w51 ⟨hb_w51, v51, rfl, hv51⟩; refine XPost.mk _ (fun W => IsC W v51 2) hb_w51 (hv51) (IsC.cl _ _) ?_); clear hb_w51 hcS hfS hS hF
          intro K hK; go_simp; (try go_bits); refine hK _ ?_; clear hK K
          clear hv51
          apply wpF_call (i := 2) rfl (by kernel_rfl) (by kernel_rfl); intro W hF hS; have hcS := hS.1.cells.1; have hfS := hS.1.cells.2; go_simp; (go_at_call 23; refine (K4.out _ _ _ (HA.out.below hS.1.2) (hF.zl l2)).mono ?_; rintro e w52 ⟨hb_w52, A52, c52, rfl, _, _⟩; refine XPost.mk _ (fun _ => True) hb_w52 (trivial) (Cl.tt) ?_); clear hb_w52 hcS hfS hS hF
          intro K hK; go_simp; (try go_bits); refine hK _ ?_; clear hK K
          refine wpI_start [3, 4, 5] ?_; (iterate 3 (first | (refine wpI_off rfl (by kernel_rfl) rfl (fun K hK => ?_); go_simp; refine hK _ ?_; clear hK K) | ((first | apply wpI_step rfl (by kernel_rfl) rfl | apply wpI_on rfl (by kernel_rfl) rfl); (focus (intro W' hS; have hcS := hS.cells.1; have hfS := hS.cells.2; go_simp; (first | done | exact rfl | exact ⟨rfl, Below.refl _ _⟩ | (go_simp; first | done | exact rfl | exact ⟨rfl, Below.refl _ _⟩)))); intro K hK; go_simp; (try go_bits); refine hK _ ?_; clear hK K))); refine wpI_nil ?_
          refine wpF_fresh2 (i := 6) (fun F G G' a h hL w' hF hS => hL w' hF (hS.same (fun p => (h p).symm))) rfl (by kernel_rfl) _ (by intro W; go_simp; first | done | exact rfl) ?_
          intro g_6 hN_6 hG_6 K hK
          go_simp; refine hK _ ?_; clear hK K
          apply wpF_wild (i := 7) rfl (by kernel_rfl) (by kernel_rfl); intro W hF hS; have hcS := hS.1.cells.1; have hfS := hS.1.cells.2; have k4 := C2.of_row (hS.2 _ (List.mem_cons_self ..)).2; have a0 := k4.1; have a1 := k4.2.1; have a2 := k4.2.2; have a3 := k4.lt; go_simp
          refine WPost.mk _ (fun _ => True) [] trivial Cl.tt ⟨(hS.1.setCell hN_6 _).setCell hN_6 _, fun p hp => by cases hp⟩ ?_
          clear k4 a0 a1 a2 a3 hcS hfS hS hF
          intro K hK; go_simp; refine hK _ ?_; clear hK K
          refine wpI_start [8] ?_; (iterate 1 (first | (refine wpI_off rfl (by kernel_rfl) rfl (fun K hK => ?_); go_simp; refine hK _ ?_; clear hK K) | ((first | apply wpI_step rfl (by kernel_rfl) rfl | apply wpI_on rfl (by kernel_rfl) rfl); (focus (intro W' hS; have hcS := hS.cells.1; have hfS := hS.cells.2; go_simp; (first | done | exact rfl | exact ⟨rfl, Below.refl _ _⟩ | (go_simp; first | done | exact rfl | exact ⟨rfl, Below.refl _ _⟩)))); intro K hK; go_simp; (try go_bits); refine hK _ ?_; clear hK K))); refine wpI_nil ?_
          refine wpF_done (by kernel_rfl) ?_
          intro w10 hF_w10 hSG
          have hz_w10 := hSG.1.1
          have hb_w10 := hSG.1.2
          clear hSG
          (with_reducible apply cel2 (b := w2.heap.size + 1) hb_w10); (focus ((try simp) <;> omega)); (focus omega); (focus (go_simp; try exact rfl)); (focus (go_simp; try exact rfl)); (focus (intro o; go_simp)); intro cc cc fz hl; (with_reducible apply cel2 (b := w4.heap.size) hb_w10); (focus ((try simp) <;> omega)); (focus omega); (focus (go_simp; try exact rfl)); (focus (go_simp; try exact rfl)); (focus (intro o; go_simp)); intro cc cc fz hl
          (try simp only [List.drop_succ_cons, List.drop_zero])
          clear hF_w10
          have HW10 := Lib.hid (show Below w9.heap.size w9 w10 by exact hb_w10)
          replace HA := Lib.hid (HA.out.below HW10.out)
          replace HL := Lib.hid (HL.out.below HW10.out)
          replace HN := Lib.hid (HN.out.below HW10.out)
          have hz10 : w.heap.size ≤ w10.heap.size := by omega
          replace HB := Lib.hid (HB.out.trans (HW10.out.mono (by omega)))
          clear hb_w10 HW10
          go_wp2_with fail
          (go_at_call 22; refine (K5.out _ _ _ (HA.out.below (Below.refl _ _)) ((HN.out.below (Below.refl _ _)).zl l1)).mono ?_; rintro e w11 ⟨hb_w11, _, _, _, _, rfl, _, _, _, _⟩; have hz_w11 := hb_w11.size; (try simp at hz_w11); (with_reducible apply cel2 (b := w2.heap.size + 1) hb_w11); (focus ((try simp) <;> omega)); (focus omega); (focus (go_simp; try exact rfl)); (focus (go_simp; try exact rfl)); (focus (intro o; go_simp)); intro cc cc fz hl; (with_reducible apply cel2 (b := w4.heap.size) hb_w11); (focus ((try simp) <;> omega)); (focus omega); (focus (go_simp; try exact rfl)); (focus (go_simp; try exact rfl)); (focus (intro o; go_simp)); intro cc cc fz hl)
          have HW11 := Lib.hid (show Below w10.heap.size w10 w11 by ((with_reducible (repeat (first | exact bR _ _ | refine bS ?_ ?_ _ | refine bA ?_ ?_ _ | refine bD ?_ | refine bT ?_ (by assumption) ?_ | refine bO (by assumption) ?_ ?_))) <;> (first | omega | (simp; done) | (simp <;> omega))))
          replace HA := Lib.hid (HA.out.below HW11.out)
          replace HL := Lib.hid (HL.out.below HW11.out)
          replace HN := Lib.hid (HN.out.below HW11.out)
          have hz11 : w.heap.size ≤ w11.heap.size := by omega
          replace HB := Lib.hid (HB.out.trans (HW11.out.mono (by omega)))
          clear hb_w11 HW11
          go_wp2_with fail
          (go_at_call 26; refine (K6.out _ _ _ (HA.out.below (((Below.refl _ _).alloc (Nat.le_refl _) _).alloc (by simp) _)) ((HN.out.below (((Below.refl _ _).alloc (Nat.le_refl _) _).alloc (by simp) _)).zl l1)).mono ?_; rintro e w12 ⟨hb_w12, _, _, rfl, _, _⟩; have hz_w12 := hb_w12.size; (try simp at hz_w12); (with_reducible apply cel2 (b := w2.heap.size + 1) hb_w12); (focus ((try simp) <;> omega)); (focus omega); (focus (go_simp; try exact rfl)); (focus (go_simp; try exact rfl)); (focus (intro o; go_simp)); intro cc cc fz hl; (with_reducible apply cel2 (b := w4.heap.size) hb_w12); (focus ((try simp) <;> omega)); (focus omega); (focus (go_simp; try exact rfl)); (focus (go_simp; try exact rfl)); (focus (intro o; go_simp)); intro cc cc fz hl)
          have HW12 := Lib.hid (show Below w11.heap.size w11 w12 by ((with_reducible (repeat (first | exact bR _ _ | refine bS ?_ ?_ _ | refine bA ?_ ?_ _ | refine bD ?_ | refine bT ?_ (by assumption) ?_ | refine bO (by assumption) ?_ ?_))) <;> (first | omega | (simp; done) | (simp <;> omega))))
          replace HA := Lib.hid (HA.out.below HW12.out)
          replace HL := Lib.hid (HL.out.below HW12.out)
          replace HN := Lib.hid (HN.out.below HW12.out)
          have hz12 : w.heap.size ≤ w12.heap.size := by omega
          replace HB := Lib.hid (HB.out.trans (HW12.out.mono (by omega)))
          clear hb_w12 HW12
          go_wp2_with fail
          (go_at_call 18; refine (K7.out _ _ (HA.out.below ((Below.refl _ _).alloc (Nat.le_refl _) _))).mono ?_; rintro e w13 ⟨hb_w13, _, _, rfl, _, _⟩; have hz_w13 := hb_w13.size; (try simp at hz_w13); (with_reducible apply cel2 (b := w2.heap.size + 1) hb_w13); (focus ((try simp) <;> omega)); (focus omega); (focus (go_simp; try exact rfl)); (focus (go_simp; try exact rfl)); (focus (intro o; go_simp)); intro cc cc fz hl; (with_reducible apply cel2 (b := w4.heap.size) hb_w13); (focus ((try simp) <;> omega)); (focus omega); (focus (go_simp; try exact rfl)); (focus (go_simp; try exact rfl)); (focus (intro o; go_simp)); intro cc cc fz hl)
          have HW13 := Lib.hid (show Below w12.heap.size w12 w13 by ((with_reducible (repeat (first | exact bR _ _ | refine bS ?_ ?_ _ | refine bA ?_ ?_ _ | refine bD ?_ | refine bT ?_ (by assumption) ?_ | refine bO (by assumption) ?_ ?_))) <;> (first | omega | (simp; done) | (simp <;> omega))))
          replace HA := Lib.hid (HA.out.below HW13.out)
          replace HL := Lib.hid (HL.out.below HW13.out)
          replace HN := Lib.hid (HN.out.below HW13.out)
          have hz13 : w.heap.size ≤ w13.heap.size := by omega
          replace HB := Lib.hid (HB.out.trans (HW13.out.mono (by omega)))
          clear hb_w13 HW13
          go_wp2_with fail
          (go_at_call 18; refine (K8.out _ _ (HA.out.below ((Below.refl _ _).alloc (Nat.le_refl _) _))).mono ?_; rintro e w14 ⟨hb_w14, _, _, rfl, _, _⟩; have hz_w14 := hb_w14.size; (try simp at hz_w14); (with_reducible apply cel2 (b := w2.heap.size + 1) hb_w14); (focus ((try simp) <;> omega)); (focus omega); (focus (go_simp; try exact rfl)); (focus (go_simp; try exact rfl)); (focus (intro o; go_simp)); intro cc cc fz hl; (with_reducible apply cel2 (b := w4.heap.size) hb_w14); (focus ((try simp) <;> omega)); (focus omega); (focus (go_simp; try exact rfl)); (focus (go_simp; try exact rfl)); (focus (intro o; go_simp)); intro cc cc fz hl)
          have HW14 := Lib.hid (show Below w13.heap.size w13 w14 by ((with_reducible (repeat (first | exact bR _ _ | refine bS ?_ ?_ _ | refine bA ?_ ?_ _ | refine bD ?_ | refine bT ?_ (by assumption) ?_ | refine bO (by assumption) ?_ ?_))) <;> (first | omega | (simp; done) | (simp <;> omega))))
          replace HA := Lib.hid (HA.out.below HW14.out)
          replace HL := Lib.hid (HL.out.below HW14.out)
          replace HN := Lib.hid (HN.out.below HW14.out)
          have hz14 : w.heap.size ≤ w14.heap.size := by omega
          replace HB := Lib.hid (HB.out.trans (HW14.out.mono (by omega)))
          clear hb_w14 HW14
          go_wp2_with fail
          (go_at_call 14; refine (K9.out _ _ (HA.out.below ((Below.refl _ _).alloc (Nat.le_refl _) _))).mono ?_; rintro e w15 ⟨rfl, hb_w15⟩; have hz_w15 := hb_w15.size; (try simp at hz_w15); (with_reducible apply cel2 (b := w2.heap.size + 1) hb_w15); (focus ((try simp) <;> omega)); (focus omega); (focus (go_simp; try exact rfl)); (focus (go_simp; try exact rfl)); (focus (intro o; go_simp)); intro cc cc fz hl; (with_reducible apply cel2 (b := w4.heap.size) hb_w15); (focus ((try simp) <;> omega)); (focus omega); (focus (go_simp; try exact rfl)); (focus (go_simp; try exact rfl)); (focus (intro o; go_simp)); intro cc cc fz hl)
          have HW15 := Lib.hid (show Below w14.heap.size w14 w15 by ((with_reducible (repeat (first | exact bR _ _ | refine bS ?_ ?_ _ | refine bA ?_ ?_ _ | refine bD ?_ | refine bT ?_ (by assumption) ?_ | refine bO (by assumption) ?_ ?_))) <;> (first | omega | (simp; done) | (simp <;> omega))))
          replace HA := Lib.hid (HA.out.below HW15.out)
          replace HL := Lib.hid (HL.out.below HW15.out)
          replace HN := Lib.hid (HN.out.below HW15.out)
          have hz15 : w.heap.size ≤ w15.heap.size := by omega
          replace HB := Lib.hid (HB.out.trans (HW15.out.mono (by omega)))
          clear hb_w15 HW15
          go_wp2_with (at_builtin; go_must (refine wpList_append_limbs rfl _ _ rfl w15.heap.size (.slice none 0 0) [] rfl (OwnL.nil _ _) (some ⟨w2.heap.size, 0, none⟩) k L (by rw [HLK.out]; rfl) (HL.out) (by rw [HLK.out, List.length_nil]; omega) (Nat.le_refl _) ?_))
          intro va wa howna hga
          have HWa := Lib.hid ((Below.refl w15.heap.size w15).grown hga (Nat.le_refl _) (by simp [Value.ownBlock]))
          obtain ⟨Aa, ca, rfl, hca, _, _⟩ := lat_of_own howna
          have HOa := Lib.hid howna
          have hza := HWa.out.size
          clear hga howna
          go_wp2_with (at_builtin; go_must (refine wpList_append_limbs rfl _ _ rfl w15.heap.size _ L rfl (HOa.out.alloc _) (some ⟨wa.heap.size, 0, none⟩) 2 [0, 0] rfl (lat_two (by simp) (by go_simp) (by go_simp)) (by have hq := HLK.out; simp; omega) (by simp; omega) ?_))
          intro vb wb hownb hgb
          have HWb := Lib.hid ((HWa.out.alloc hza (.cells #[.int .u32 0, .int .u32 0] 50)).grown hgb (by simp; omega) HOa.out.fresh)
          obtain ⟨Ab, cb, rfl, hcb, _, hAb⟩ := lat_of_own hownb
          have HT := Lib.hid (KT.out () Ab cb wb hcb hAb)
          have hb_wb := HWb.out
          have hz_wb : w15.heap.size ≤ wb.heap.size := HWb.out.size
          (with_reducible apply cel2 (b := w2.heap.size + 1) hb_wb); (focus ((try simp) <;> omega)); (focus omega); (focus (go_simp; try exact rfl)); (focus (go_simp; try exact rfl)); (focus (intro o; go_simp)); intro cc cc fz hl; (with_reducible apply cel2 (b := w4.heap.size) hb_wb); (focus ((try simp) <;> omega)); (focus omega); (focus (go_simp; try exact rfl)); (focus (go_simp; try exact rfl)); (focus (intro o; go_simp)); intro cc cc fz hl
          have HAb := Lib.hid (HA.out.below HWb.out)
          have HBb := Lib.hid (HB.out.trans (HWb.out.mono (by omega)))
          clear hgb hownb hAb hb_wb
          go_wp2_with fail
          (go_at_call 31; refine (HT.out).mono ?_; rintro e w70 ⟨hb_w70, A70, c70, rfl⟩; have hz_w70 := hb_w70.size; (try simp at hz_w70); (with_reducible apply cel2 (b := w2.heap.size + 1) hb_w70); (focus ((try simp) <;> omega)); (focus omega); (focus (go_simp; try exact rfl)); (focus (go_simp; try exact rfl)); (focus (intro o; go_simp)); intro cc cc fz hl; (with_reducible apply cel2 (b := w4.heap.size) hb_w70); (focus ((try simp) <;> omega)); (focus omega); (focus (go_simp; try exact rfl)); (focus (go_simp; try exact rfl)); (focus (intro o; go_simp)); intro cc cc fz hl)
          have HA70 := Lib.hid (HAb.out.below hb_w70)
          have HB70 := Lib.hid (HBb.out.trans (hb_w70.mono (by omega)))
          have hz70 : w.heap.size ≤ w70.heap.size := by omega
          clear hb_w70
          go_wp2_with fail
          -- own blocks besides: w70.heap.size:2
          (go_at_call 32; refine (K10.out _ _ (HA70.out.below ((Below.refl _ _).alloc (Nat.le_refl _) _))).mono ?_; rintro e w71 ⟨rfl, hb_w71⟩; have hz_w71 := hb_w71.size; (try simp at hz_w71); (with_reducible apply cel2 (b := w2.heap.size + 1) hb_w71); (focus ((try simp) <;> omega)); (focus omega); (focus (go_simp; try exact rfl)); (focus (go_simp; try exact rfl)); (focus (intro o; go_simp)); intro cc cc fz hl; (with_reducible apply cel2 (b := w4.heap.size) hb_w71); (focus ((try simp) <;> omega)); (focus omega); (focus (go_simp; try exact rfl)); (focus (go_simp; try exact rfl)); (focus (intro o; go_simp)); intro cc cc fz hl; (with_reducible apply cel2 (b := w70.heap.size) hb_w71); (focus ((try simp) <;> omega)); (focus omega); (focus (go_simp; try exact rfl)); (focus (go_simp; try exact rfl)); (focus (intro o; go_simp)); intro cc cc fz hl)
          have HW71 := Lib.hid (show Below w70.heap.size w70 w71 by ((with_reducible (repeat (first | exact bR _ _ | refine bS ?_ ?_ _ | refine bA ?_ ?_ _ | refine bD ?_ | refine bT ?_ (by assumption) ?_ | refine bO (by assumption) ?_ ?_))) <;> (first | omega | (simp; done) | (simp <;> omega))))
          go_wp2_with fail
          go_ret
          exact ⟨ret_bool (by first | rfl | simp | (simp; omega)), HB70.out.trans (HW71.out.mono hz70)⟩
        · by_cases h256 : k = 256
          · obtain rfl : Wc = 0 := by rw [hWc, if_neg (by omega)]
            obtain rfl : Mc = 2 := by rw [hMc, if_pos (by omega)]
            have n1 : ¬ (256 : Int) < (k : Int) := by omega
            have n2 : ((k : Int) == 256) = true := by simp; omega
            clear hWc hMc h255 h256
            obtain rfl : O = -1 := HO0.out
            have l1 : (canN (-1 : Int).natAbs).length ≤ 300 := Nat.le_trans (lenZ_word (by omega) (by omega)) (by decide)
            have K1 := Lib.hid k1
            have K2 := Lib.hid k2
            have K3 := Lib.hid k3
            have K4 := Lib.hid k4
            have K5 := Lib.hid k5
            have K6 := Lib.hid k6
            have K7 := Lib.hid k7
            have K8 := Lib.hid k8
            have K9 := Lib.hid k9
            have K10 := Lib.hid k10
            clear k1 k2 k3 k4 k5 k6 k7 k8 k9 k10 HZO HF HPL HR HC HBE HO0
            -- own blocks: w2.heap.size + 1:2
            go_wp2_with fail
            (go_at_call 20; refine (iof_any 1 _ (by omega) (by omega)).mono ?_; rintro e w4 ⟨hb_w4, v4, rfl, hv4⟩; have hz_w4 := hb_w4.size; (try simp at hz_w4); (with_reducible apply cel2 (b := w2.heap.size + 1) hb_w4); (focus ((try simp) <;> omega)); (focus omega); (focus (go_simp; try exact rfl)); (focus (go_simp; try exact rfl)); (focus (intro o; go_simp)); intro cc cc fz hl)
            have HW4 := Lib.hid (show Below w3.heap.size w3 w4 by ((with_reducible (repeat (first | exact bR _ _ | refine bS ?_ ?_ _ | refine bA ?_ ?_ _ | refine bD ?_ | refine bT ?_ (by assumption) ?_ | refine bO (by assumption) ?_ ?_))) <;> (first | omega | (simp; done) | (simp <;> omega))))
            have HO := Lib.hid hv4
            replace HA := Lib.hid (HA.out.below HW4.out)
            replace HL := Lib.hid (HL.out.below HW4.out)
            have hz4 : w.heap.size ≤ w4.heap.size := by omega
            replace HB := Lib.hid (HB.out.trans (HW4.out.mono (by omega)))
            clear hb_w4 HW4 hv4
            obtain ⟨AO, cO, eO, _, _⟩ := HO.out
            subst eO
            go_wp2_with fail
            -- own blocks besides: w4.heap.size:2
            (go_at_call 20; refine (iof_any (-1) _ (by omega) (by omega)).mono ?_; rintro e w5 ⟨hb_w5, v5, rfl, hv5⟩; have hz_w5 := hb_w5.size; (try simp at hz_w5); (with_reducible apply cel2 (b := w2.heap.size + 1) hb_w5); (focus ((try simp) <;> omega)); (focus omega); (focus (go_simp; try exact rfl)); (focus (go_simp; try exact rfl)); (focus (intro o; go_simp)); intro cc cc fz hl; (with_reducible apply cel2 (b := w4.heap.size) hb_w5); (focus ((try simp) <;> omega)); (focus omega); (focus (go_simp; try exact rfl)); (focus (go_simp; try exact rfl)); (focus (intro o; go_simp)); intro cc cc fz hl)
            have HW5 := Lib.hid (show Below w4.heap.size w4 w5 by ((with_reducible (repeat (first | exact bR _ _ | refine bS ?_ ?_ _ | refine bA ?_ ?_ _ | refine bD ?_ | refine bT ?_ (by assumption) ?_ | refine bO (by assumption) ?_ ?_))) <;> (first | omega | (simp; done) | (simp <;> omega))))
            have HN := Lib.hid hv5
            replace HA := Lib.hid (HA.out.below HW5.out)
            replace HL := Lib.hid (HL.out.below HW5.out)
            replace HO := Lib.hid (HO.out.below HW5.out)
            have hz5 : w.heap.size ≤ w5.heap.size := by omega
            replace HB := Lib.hid (HB.out.trans (HW5.out.mono (by omega)))
            clear hb_w5 HW5 hv5
            obtain ⟨AN, cN, eN, _, _⟩ := HN.out
            subst eN
            go_wp2_with fail
            (go_at_call 24; refine (K1.out _ _ _ (HA.out.set2 (by assumption) (by assumption) _ _) ((HN.out.set2 (by assumption) (by assumption) _ _).zl l1)).mono ?_; rintro e w6 ⟨hb_w6, _, _, rfl, _, _⟩; have hz_w6 := hb_w6.size; (try simp at hz_w6); (with_reducible apply cel2 (b := w2.heap.size + 1) hb_w6); (focus ((try simp) <;> omega)); (focus omega); (focus (go_simp; try exact rfl)); (focus (go_simp; try exact rfl)); (focus (intro o; go_simp)); intro cc cc fz hl; (with_reducible apply cel2 (b := w4.heap.size) hb_w6); (focus ((try simp) <;> omega)); (focus omega); (focus (go_simp; try exact rfl)); (focus (go_simp; try exact rfl)); (focus (intro o; go_simp)); intro cc cc fz hl)
            replace HA := Lib.hid ((HA.out.set2 (by assumption) (by assumption) _ _).below hb_w6)
            replace HL := Lib.hid ((HL.out.set2 (by assumption) (by assumption) _ _).below hb_w6)
            replace HN := Lib.hid ((HN.out.set2 (by assumption) (by assumption) _ _).below hb_w6)
            replace HB := Lib.hid (show Below w.heap.size w w6 by (have hbo := HB.out; ((with_reducible (repeat (first | exact bR _ _ | refine bS ?_ ?_ _ | refine bA ?_ ?_ _ | refine bD ?_ | refine bT ?_ (by assumption) ?_ | refine bO (by assumption) ?_ ?_))) <;> (first | omega | (simp; done) | (simp <;> omega)))))
            have hz6 : w.heap.size ≤ w6.heap.size := HB.out.size
            clear hb_w6
            go_wp2_with fail
            (go_at_call 19; refine (K2.out _ _ _ (HA.out.below ((Below.refl _ _).alloc (Nat.le_refl _) _)) ((HN.out.below ((Below.refl _ _).alloc (Nat.le_refl _) _)).zl l1)).mono ?_; rintro e w7 ⟨hb_w7, _, _, rfl, _, _⟩; have hz_w7 := hb_w7.size; (try simp at hz_w7); (with_reducible apply cel2 (b := w2.heap.size + 1) hb_w7); (focus ((try simp) <;> omega)); (focus omega); (focus (go_simp; try exact rfl)); (focus (go_simp; try exact rfl)); (focus (intro o; go_simp)); intro cc cc fz hl; (with_reducible apply cel2 (b := w4.heap.size) hb_w7); (focus ((try simp) <;> omega)); (focus omega); (focus (go_simp; try exact rfl)); (focus (go_simp; try exact rfl)); (focus (intro o; go_simp)); intro cc cc fz hl)
            have HW7 := Lib.hid (show Below w6.heap.size w6 w7 by ((with_reducible (repeat (first | exact bR _ _ | refine bS ?_ ?_ _ | refine bA ?_ ?_ _ | refine bD ?_ | refine bT ?_ (by assumption) ?_ | refine bO (by assumption) ?_ ?_))) <;> (first | omega | (simp; done) | (simp <;> omega))))
            replace HA := Lib.hid (HA.out.below HW7.out)
            replace HL := Lib.hid (HL.out.below HW7.out)
            replace HN := Lib.hid (HN.out.below HW7.out)
            have hz7 : w.heap.size ≤ w7.heap.size := by omega
            replace HB := Lib.hid (HB.out.trans (HW7.out.mono (by omega)))
            clear hb_w7 HW7
            go_wp2_with fail
            (go_at_call 23; refine (K3.out _ _ _ (HA.out.below ((Below.refl _ _).alloc (Nat.le_refl _) _)) ((HN.out.below ((Below.refl _ _).alloc (Nat.le_refl _) _)).zl l1)).mono ?_; rintro e w8 ⟨hb_w8, _, _, rfl, _, _⟩; have hz_w8 := hb_w8.size; (try simp at hz_w8); (with_reducible apply cel2 (b := w2.heap.size + 1) hb_w8); (focus ((try simp) <;> omega)); (focus omega); (focus (go_simp; try exact rfl)); (focus (go_simp; try exact rfl)); (focus (intro o; go_simp)); intro cc cc fz hl; (with_reducible apply cel2 (b := w4.heap.size) hb_w8); (focus ((try simp) <;> omega)); (focus omega); (focus (go_simp; try exact rfl)); (focus (go_simp; try exact rfl)); (focus (intro o; go_simp)); intro cc cc fz hl)
            have HW8 := Lib.hid (show Below w7.heap.size w7 w8 by ((with_reducible (repeat (first | exact bR _ _ | refine bS ?_ ?_ _ | refine bA ?_ ?_ _ | refine bD ?_ | refine bT ?_ (by assumption) ?_ | refine bO (by assumption) ?_ ?_))) <;> (first | omega | (simp; done) | (simp <;> omega))))
            replace HA := Lib.hid (HA.out.below HW8.out)
            replace HL := Lib.hid (HL.out.below HW8.out)
            replace HN := Lib.hid (HN.out.below HW8.out)
            have hz8 : w.heap.size ≤ w8.heap.size := by omega
            replace HB := Lib.hid (HB.out.trans (HW8.out.mono (by omega)))
            clear hb_w8 HW8
            go_wp2_with fail
            (refine pin_wp (N := _) (Nat.le_refl _) (fun w9 hb_w9 hz_w9 => ?_); (try simp at hz_w9); (with_reducible apply cel2 (b := w2.heap.size + 1) hb_w9); (focus ((try simp) <;> omega)); (focus omega); (focus (go_simp; try exact rfl)); (focus (go_simp; try exact rfl)); (focus (intro o; go_simp)); intro cc cc fz hl; (with_reducible apply cel2 (b := w4.heap.size) hb_w9); (focus ((try simp) <;> omega)); (focus omega); (focus (go_simp; try exact rfl)); (focus (go_simp; try exact rfl)); (focus (intro o; go_simp)); intro cc cc fz hl); refine wp_region_float w9.heap.size 9 (Nat.le_refl _) (fun _ => True) trivial Cl.tt (by kernel_rfl) (by simp) ?_
            have HW9 := Lib.hid (show Below w8.heap.size w8 w9 by ((with_reducible (repeat (first | exact bR _ _ | refine bS ?_ ?_ _ | refine bA ?_ ?_ _ | refine bD ?_ | refine bT ?_ (by assumption) ?_ | refine bO (by assumption) ?_ ?_))) <;> (first | omega | (simp; done) | (simp <;> omega))))
            replace HA := Lib.hid (HA.out.below HW9.out)
            replace HL := Lib.hid (HL.out.below HW9.out)
            replace HN := Lib.hid (HN.out.below HW9.out)
            have hz9 : w.heap.size ≤ w9.heap.size := by omega
            replace HB := Lib.hid (HB.out.trans (HW9.out.mono (by omega)))
            clear hb_w9 HW9
            refine wpI_start [0] ?_; (iterate 1 (first | (refine wpI_off rfl (by kernel_rfl) rfl (fun K hK => ?_); go_simp; refine hK _ ?_; clear hK K) | ((first | apply wpI_step rfl (by kernel_rfl) rfl | apply wpI_on rfl (by kernel_rfl) rfl); (focus (intro W' hS; have hcS := hS.cells.1; have hfS := hS.cells.2; go_simp; (first | done | exact rfl | exact ⟨rfl, Below.refl _ _⟩ | (go_simp; first | done | exact rfl | exact ⟨rfl, Below.refl _ _⟩)))); intro K hK; go_simp; (try go_bits); refine hK _ ?_; clear hK K))); refine wpI_nil ?_
            apply wpF_call (i := 1) rfl (by kernel_rfl) (by kernel_rfl); intro W hF hS; have hcS := hS.1.cells.1; have hfS := hS.1.cells.2; go_simp; (go_at_call 20; refine (iof_any 2 _ (by omega) (by omega)).mono ?_; rintro e w51 ⟨hb_w51, v51, rfl, hv51⟩; refine XPost.mk _ (fun W => IsC W v51 2) hb_w51 (hv51) (IsC.cl _ _) ?_); clear hb_w51 hcS hfS hS hF
            intro K hK; go_simp; (try go_bits); refine hK _ ?_; clear hK K
            clear hv51
            apply wpF_call (i := 2) rfl (by kernel_rfl) (by kernel_rfl); intro W hF hS; have hcS := hS.1.cells.1; have hfS := hS.1.cells.2; go_simp; (go_at_call 23; refine (K4.out _ _ _ (HA.out.below hS.1.2) (hF.zl l2)).mono ?_; rintro e w52 ⟨hb_w52, A52, c52, rfl, _, _⟩; refine XPost.mk _ (fun _ => True) hb_w52 (trivial) (Cl.tt) ?_); clear hb_w52 hcS hfS hS hF
            intro K hK; go_simp; (try go_bits); refine hK _ ?_; clear hK K
            refine wpI_start [3, 4, 5] ?_; (iterate 3 (first | (refine wpI_off rfl (by kernel_rfl) rfl (fun K hK => ?_); go_simp; refine hK _ ?_; clear hK K) | ((first | apply wpI_step rfl (by kernel_rfl) rfl | apply wpI_on rfl (by kernel_rfl) rfl); (focus (intro W' hS; have hcS := hS.cells.1; have hfS := hS.cells.2; go_simp; (first | done | exact rfl | exact ⟨rfl, Below.refl _ _⟩ | (go_simp; first | done | exact rfl | exact ⟨rfl, Below.refl _ _⟩)))); intro K hK; go_simp; (try go_bits); refine hK _ ?_; clear hK K))); refine wpI_nil ?_
            refine wpF_fresh2 (i := 6) (fun F G G' a h hL w' hF hS => hL w' hF (hS.same (fun p => (h p).symm))) rfl (by kernel_rfl) _ (by intro W; go_simp; first | done | exact rfl) ?_
            intro g_6 hN_6 hG_6 K hK
            go_simp; refine hK _ ?_; clear hK K
            apply wpF_wild (i := 7) rfl (by kernel_rfl) (by kernel_rfl); intro W hF hS; have hcS := hS.1.cells.1; have hfS := hS.1.cells.2; have k4 := C2.of_row (hS.2 _ (List.mem_cons_self ..)).2; have a0 := k4.1; have a1 := k4.2.1; have a2 := k4.2.2; have a3 := k4.lt; go_simp
            refine WPost.mk _ (fun _ => True) [] trivial Cl.tt ⟨(hS.1.setCell hN_6 _).setCell hN_6 _, fun p hp => by cases hp⟩ ?_
            clear k4 a0 a1 a2 a3 hcS hfS hS hF
            intro K hK; go_simp; refine hK _ ?_; clear hK K
            refine wpI_start [8] ?_; (iterate 1 (first | (refine wpI_off rfl (by kernel_rfl) rfl (fun K hK => ?_); go_simp; refine hK _ ?_; clear hK K) | ((first | apply wpI_step rfl (by kernel_rfl) rfl | apply wpI_on rfl (by kernel_rfl) rfl); (focus (intro W' hS; have hcS := hS.cells.1; have hfS := hS.cells.2; go_simp; (first | done | exact rfl | exact ⟨rfl, Below.refl _ _⟩ | (go_simp; first | done | exact rfl | exact ⟨rfl, Below.refl _ _⟩)))); intro K hK; go_simp; (try go_bits); refine hK _ ?_; clear hK K))); refine wpI_nil ?_
            refine wpF_done (by kernel_rfl) ?_
            intro w10 hF_w10 hSG
            have hz_w10 := hSG.1.1
            have hb_w10 := hSG.1.2
            clear hSG
            (with_reducible apply cel2 (b := w2.heap.size + 1) hb_w10); (focus ((try simp) <;> omega)); (focus omega); (focus (go_simp; try exact rfl)); (focus (go_simp; try exact rfl)); (focus (intro o; go_simp)); intro cc cc fz hl; (with_reducible apply cel2 (b := w4.heap.size) hb_w10); (focus ((try simp) <;> omega)); (focus omega); (focus (go_simp; try exact rfl)); (focus (go_simp; try exact rfl)); (focus (intro o; go_simp)); intro cc cc fz hl
            (try simp only [List.drop_succ_cons, List.drop_zero])
            clear hF_w10
            have HW10 := Lib.hid (show Below w9.heap.size w9 w10 by exact hb_w10)
            replace HA := Lib.hid (HA.out.below HW10.out)
            replace HL := Lib.hid (HL.out.below HW10.out)
            replace HN := Lib.hid (HN.out.below HW10.out)
            have hz10 : w.heap.size ≤ w10.heap.size := by omega
            replace HB := Lib.hid (HB.out.trans (HW10.out.mono (by omega)))
            clear hb_w10 HW10
            go_wp2_with fail
            (go_at_call 22; refine (K5.out _ _ _ (HA.out.below (Below.refl _ _)) ((HN.out.below (Below.refl _ _)).zl l1)).mono ?_; rintro e w11 ⟨hb_w11, _, _, _, _, rfl, _, _, _, _⟩; have hz_w11 := hb_w11.size; (try simp at hz_w11); (with_reducible apply cel2 (b := w2.heap.size + 1) hb_w11); (focus ((try simp) <;> omega)); (focus omega); (focus (go_simp; try exact rfl)); (focus (go_simp; try exact rfl)); (focus (intro o; go_simp)); intro cc cc fz hl; (with_reducible apply cel2 (b := w4.heap.size) hb_w11); (focus ((try simp) <;> omega)); (focus omega); (focus (go_simp; try exact rfl)); (focus (go_simp; try exact rfl)); (focus (intro o; go_simp)); intro cc cc fz hl)
            have HW11 := Lib.hid (show Below w10.heap.size w10 w11 by ((with_reducible (repeat (first | exact bR _ _ | refine bS ?_ ?_ _ | refine bA ?_ ?_ _ | refine bD ?_ | refine bT ?_ (by assumption) ?_ | refine bO (by assumption) ?_ ?_))) <;> (first | omega | (simp; done) | (simp <;> omega))))
            replace HA := Lib.hid (HA.out.below HW11.out)
            replace HL := Lib.hid (HL.out.below HW11.out)
            replace HN := Lib.hid (HN.out.below HW11.out)
            have hz11 : w.heap.size ≤ w11.heap.size := by omega
            replace HB := Lib.hid (HB.out.trans (HW11.out.mono (by omega)))
            clear hb_w11 HW11
            go_wp2_with fail
            (go_at_call 26; refine (K6.out _ _ _ (HA.out.below (((Below.refl _ _).alloc (Nat.le_refl _) _).alloc (by simp) _)) ((HN.out.below (((Below.refl _ _).alloc (Nat.le_refl _) _).alloc (by simp) _)).zl l1)).mono ?_; rintro e w12 ⟨hb_w12, _, _, rfl, _, _⟩; have hz_w12 := hb_w12.size; (try simp at hz_w12); (with_reducible apply cel2 (b := w2.heap.size + 1) hb_w12); (focus ((try simp) <;> omega)); (focus omega); (focus (go_simp; try exact rfl)); (focus (go_simp; try exact rfl)); (focus (intro o; go_simp)); intro cc cc fz hl; (with_reducible apply cel2 (b := w4.heap.size) hb_w12); (focus ((try simp) <;> omega)); (focus omega); (focus (go_simp; try exact rfl)); (focus (go_simp; try exact rfl)); (focus (intro o; go_simp)); intro cc cc fz hl)
            have HW12 := Lib.hid (show Below w11.heap.size w11 w12 by ((with_reducible (repeat (first | exact bR _ _ | refine bS ?_ ?_ _ | refine bA ?_ ?_ _ | refine bD ?_ | refine bT ?_ (by assumption) ?_ | refine bO (by assumption) ?_ ?_))) <;> (first | omega | (simp; done) | (simp <;> omega))))
            replace HA := Lib.hid (HA.out.below HW12.out)
            replace HL := Lib.hid (HL.out.below HW12.out)
            replace HN := Lib.hid (HN.out.below HW12.out)
            have hz12 : w.heap.size ≤ w12.heap.size := by omega
            replace HB := Lib.hid (HB.out.trans (HW12.out.mono (by omega)))
            clear hb_w12 HW12
            go_wp2_with fail
            (go_at_call 18; refine (K7.out _ _ (HA.out.below ((Below.refl _ _).alloc (Nat.le_refl _) _))).mono ?_; rintro e w13 ⟨hb_w13, _, _, rfl, _, _⟩; have hz_w13 := hb_w13.size; (try simp at hz_w13); (with_reducible apply cel2 (b := w2.heap.size + 1) hb_w13); (focus ((try simp) <;> omega)); (focus omega); (focus (go_simp; try exact rfl)); (focus (go_simp; try exact rfl)); (focus (intro o; go_simp)); intro cc cc fz hl; (with_reducible apply cel2 (b := w4.heap.size) hb_w13); (focus ((try simp) <;> omega)); (focus omega); (focus (go_simp; try exact rfl)); (focus (go_simp; try exact rfl)); (focus (intro o; go_simp)); intro cc cc fz hl)
            have HW13 := Lib.hid (show Below w12.heap.size w12 w13 by ((with_reducible (repeat (first | exact bR _ _ | refine bS ?_ ?_ _ | refine bA ?_ ?_ _ | refine bD ?_ | refine bT ?_ (by assumption) ?_ | refine bO (by assumption) ?_ ?_))) <;> (first | omega | (simp; done) | (simp <;> omega))))
            replace HA := Lib.hid (HA.out.below HW13.out)
            replace HL := Lib.hid (HL.out.below HW13.out)
            replace HN := Lib.hid (HN.out.below HW13.out)
            have hz13 : w.heap.size ≤ w13.heap.size := by omega
            replace HB := Lib.hid (HB.out.trans (HW13.out.mono (by omega)))
            clear hb_w13 HW13
            go_wp2_with fail
            (go_at_call 18; refine (K8.out _ _ (HA.out.below ((Below.refl _ _).alloc (Nat.le_refl _) _))).mono ?_; rintro e w14 ⟨hb_w14, _, _, rfl, _, _⟩; have hz_w14 := hb_w14.size; (try simp at hz_w14); (with_reducible apply cel2 (b := w2.heap.size + 1) hb_w14); (focus ((try simp) <;> omega)); (focus omega); (focus (go_simp; try exact rfl)); (focus (go_simp; try exact rfl)); (focus (intro o; go_simp)); intro cc cc fz hl; (with_reducible apply cel2 (b := w4.heap.size) hb_w14); (focus ((try simp) <;> omega)); (focus omega); (focus (go_simp; try exact rfl)); (focus (go_simp; try exact rfl)); (focus (intro o; go_simp)); intro cc cc fz hl)
            have HW14 := Lib.hid (show Below w13.heap.size w13 w14 by ((with_reducible (repeat (first | exact bR _ _ | refine bS ?_ ?_ _ | refine bA ?_ ?_ _ | refine bD ?_ | refine bT ?_ (by assumption) ?_ | refine bO (by assumption) ?_ ?_))) <;> (first | omega | (simp; done) | (simp <;> omega))))
            replace HA := Lib.hid (HA.out.below HW14.out)
            replace HL := Lib.hid (HL.out.below HW14.out)
            replace HN := Lib.hid (HN.out.below HW14.out)
            have hz14 : w.heap.size ≤ w14.heap.size := by omega
            replace HB := Lib.hid (HB.out.trans (HW14.out.mono (by omega)))
            clear hb_w14 HW14
            go_wp2_with fail
            (go_at_call 14; refine (K9.out _ _ (HA.out.below ((Below.refl _ _).alloc (Nat.le_refl _) _))).mono ?_; rintro e w15 ⟨rfl, hb_w15⟩; have hz_w15 := hb_w15.size; (try simp at hz_w15); (with_reducible apply cel2 (b := w2.heap.size + 1) hb_w15); (focus ((try simp) <;> omega)); (focus omega); (focus (go_simp; try exact rfl)); (focus (go_simp; try exact rfl)); (focus (intro o; go_simp)); intro cc cc fz hl; (with_reducible apply cel2 (b := w4.heap.size) hb_w15); (focus ((try simp) <;> omega)); (focus omega); (focus (go_simp; try exact rfl)); (focus (go_simp; try exact rfl)); (focus (intro o; go_simp)); intro cc cc fz hl)
            have HW15 := Lib.hid (show Below w14.heap.size w14 w15 by ((with_reducible (repeat (first | exact bR _ _ | refine bS ?_ ?_ _ | refine bA ?_ ?_ _ | refine bD ?_ | refine bT ?_ (by assumption) ?_ | refine bO (by assumption) ?_ ?_))) <;> (first | omega | (simp; done) | (simp <;> omega))))
            replace HA := Lib.hid (HA.out.below HW15.out)
            replace HL := Lib.hid (HL.out.below HW15.out)
            replace HN := Lib.hid (HN.out.below HW15.out)
            have hz15 : w.heap.size ≤ w15.heap.size := by omega
            replace HB := Lib.hid (HB.out.trans (HW15.out.mono (by omega)))
            clear hb_w15 HW15
            go_wp2_with (at_builtin; go_must (refine wpList_append_limbs rfl _ _ rfl w15.heap.size (.slice none 0 0) [] rfl (OwnL.nil _ _) (some ⟨w2.heap.size, 0, none⟩) k L (by rw [HLK.out]; rfl) (HL.out) (by rw [HLK.out, List.length_nil]; omega) (Nat.le_refl _) ?_))
            intro va wa howna hga
            have HWa := Lib.hid ((Below.refl w15.heap.size w15).grown hga (Nat.le_refl _) (by simp [Value.ownBlock]))
            obtain ⟨Aa, ca, rfl, hca, _, _⟩ := lat_of_own howna
            have HOa := Lib.hid howna
            have hza := HWa.out.size
            clear hga howna
            go_wp2_with (at_builtin; go_must (refine wpList_append_limbs rfl _ _ rfl w15.heap.size _ L rfl (HOa.out.alloc _) (some ⟨wa.heap.size, 0, none⟩) 2 [0, 0] rfl (lat_two (by simp) (by go_simp) (by go_simp)) (by have hq := HLK.out; simp; omega) (by simp; omega) ?_))
            intro vb wb hownb hgb
            have HWb := Lib.hid ((HWa.out.alloc hza (.cells #[.int .u32 0, .int .u32 0] 50)).grown hgb (by simp; omega) HOa.out.fresh)
            obtain ⟨Ab, cb, rfl, hcb, _, hAb⟩ := lat_of_own hownb
            have HT := Lib.hid (KT.out () Ab cb wb hcb hAb)
            have hb_wb := HWb.out
            have hz_wb : w15.heap.size ≤ wb.heap.size := HWb.out.size
            (with_reducible apply cel2 (b := w2.heap.size + 1) hb_wb); (focus ((try simp) <;> omega)); (focus omega); (focus (go_simp; try exact rfl)); (focus (go_simp; try exact rfl)); (focus (intro o; go_simp)); intro cc cc fz hl; (with_reducible apply cel2 (b := w4.heap.size) hb_wb); (focus ((try simp) <;> omega)); (focus omega); (focus (go_simp; try exact rfl)); (focus (go_simp; try exact rfl)); (focus (intro o; go_simp)); intro cc cc fz hl
            have HAb := Lib.hid (HA.out.below HWb.out)
            have HBb := Lib.hid (HB.out.trans (HWb.out.mono (by omega)))
            clear hgb hownb hAb hb_wb
            go_wp2_with fail
            (go_at_call 31; refine (HT.out).mono ?_; rintro e w70 ⟨hb_w70, A70, c70, rfl⟩; have hz_w70 := hb_w70.size; (try simp at hz_w70); (with_reducible apply cel2 (b := w2.heap.size + 1) hb_w70); (focus ((try simp) <;> omega)); (focus omega); (focus (go_simp; try exact rfl)); (focus (go_simp; try exact rfl)); (focus (intro o; go_simp)); intro cc cc fz hl; (with_reducible apply cel2 (b := w4.heap.size) hb_w70); (focus ((try simp) <;> omega)); (focus omega); (focus (go_simp; try exact rfl)); (focus (go_simp; try exact rfl)); (focus (intro o; go_simp)); intro cc cc fz hl)
            have HA70 := Lib.hid (HAb.out.below hb_w70)
            have HB70 := Lib.hid (HBb.out.trans (hb_w70.mono (by omega)))
            have hz70 : w.heap.size ≤ w70.heap.size := by omega
            clear hb_w70
            go_wp2_with fail
            -- own blocks besides: w70.heap.size:2
            (go_at_call 32; refine (K10.out _ _ (HA70.out.below ((Below.refl _ _).alloc (Nat.le_refl _) _))).mono ?_; rintro e w71 ⟨rfl, hb_w71⟩; have hz_w71 := hb_w71.size; (try simp at hz_w71); (with_reducible apply cel2 (b := w2.heap.size + 1) hb_w71); (focus ((try simp) <;> omega)); (focus omega); (focus (go_simp; try exact rfl)); (focus (go_simp; try exact rfl)); (focus (intro o; go_simp)); intro cc cc fz hl; (with_reducible apply cel2 (b := w4.heap.size) hb_w71); (focus ((try simp) <;> omega)); (focus omega); (focus (go_simp; try exact rfl)); (focus (go_simp; try exact rfl)); (focus (intro o; go_simp)); intro cc cc fz hl; (with_reducible apply cel2 (b := w70.heap.size) hb_w71); (focus ((try simp) <;> omega)); (focus omega); (focus (go_simp; try exact rfl)); (focus (go_simp; try exact rfl)); (focus (intro o; go_simp)); intro cc cc fz hl)
            have HW71 := Lib.hid (show Below w70.heap.size w70 w71 by ((with_reducible (repeat (first | exact bR _ _ | refine bS ?_ ?_ _ | refine bA ?_ ?_ _ | refine bD ?_ | refine bT ?_ (by assumption) ?_ | refine bO (by assumption) ?_ ?_))) <;> (first | omega | (simp; done) | (simp <;> omega))))
            go_wp2_with fail
            go_ret
            exact ⟨ret_bool (by first | rfl | simp | (simp; omega)), HB70.out.trans (HW71.out.mono hz70)⟩
          · obtain rfl : Wc = 2 := by rw [hWc, if_pos (by omega)]
            obtain rfl : Mc = 2 := by rw [hMc, if_pos (by omega)]
            have n1 : (256 : Int) < (k : Int) := by omega
            have n2 : ((k : Int) == 256) = false := by simp; omega
            clear hWc hMc h255 h256
            obtain rfl : O = -1 := HO0.out
            have l1 : (canN (-1 : Int).natAbs).length ≤ 300 := Nat.le_trans (lenZ_word (by omega) (by omega)) (by decide)
            have K1 := Lib.hid k1
            have K2 := Lib.hid k2
            have K3 := Lib.hid k3
            have K4 := Lib.hid k4
            have K5 := Lib.hid k5
            have K6 := Lib.hid k6
            have K7 := Lib.hid k7
            have K8 := Lib.hid k8
            have K9 := Lib.hid k9
            have K10 := Lib.hid k10
            clear k1 k2 k3 k4 k5 k6 k7 k8 k9 k10 HZO HF HPL HR HC HBE HO0
            -- own blocks: w2.heap.size + 1:2
            go_wp2_with fail
            (go_at_call 20; refine (iof_any 1 _ (by omega) (by omega)).mono ?_; rintro e w4 ⟨hb_w4, v4, rfl, hv4⟩; have hz_w4 := hb_w4.size; (try simp at hz_w4); (with_reducible apply cel2 (b := w2.heap.size + 1) hb_w4); (focus ((try simp) <;> omega)); (focus omega); (focus (go_simp; try exact rfl)); (focus (go_simp; try exact rfl)); (focus (intro o; go_simp)); intro cc cc fz hl)
            have HW4 := Lib.hid (show Below w3.heap.size w3 w4 by ((with_reducible (repeat (first | exact bR _ _ | refine bS ?_ ?_ _ | refine bA ?_ ?_ _ | refine bD ?_ | refine bT ?_ (by assumption) ?_ | refine bO (by assumption) ?_ ?_))) <;> (first | omega | (simp; done) | (simp <;> omega))))
            have HO := Lib.hid hv4
            replace HA := Lib.hid (HA.out.below HW4.out)
            replace HL := Lib.hid (HL.out.below HW4.out)
            have hz4 : w.heap.size ≤ w4.heap.size := by omega
            replace HB := Lib.hid (HB.out.trans (HW4.out.mono (by omega)))
            clear hb_w4 HW4 hv4
            obtain ⟨AO, cO, eO, _, _⟩ := HO.out
            subst eO
            go_wp2_with fail
            -- own blocks besides: w4.heap.size:2
            (go_at_call 20; refine (iof_any (-1) _ (by omega) (by omega)).mono ?_; rintro e w5 ⟨hb_w5, v5, rfl, hv5⟩; have hz_w5 := hb_w5.size; (try simp at hz_w5); (with_reducible apply cel2 (b := w2.heap.size + 1) hb_w5); (focus ((try simp) <;> omega)); (focus omega); (focus (go_simp; try exact rfl)); (focus (go_simp; try exact rfl)); (focus (intro o; go_simp)); intro cc cc fz hl; (with_reducible apply cel2 (b := w4.heap.size) hb_w5); (focus ((try simp) <;> omega)); (focus omega); (focus (go_simp; try exact rfl)); (focus (go_simp; try exact rfl)); (focus (intro o; go_simp)); intro cc cc fz hl)
            have HW5 := Lib.hid (show Below w4.heap.size w4 w5 by ((with_reducible (repeat (first | exact bR _ _ | refine bS ?_ ?_ _ | refine bA ?_ ?_ _ | refine bD ?_ | refine bT ?_ (by assumption) ?_ | refine bO (by assumption) ?_ ?_))) <;> (first | omega | (simp; done) | (simp <;> omega))))
            have HN := Lib.hid hv5
            replace HA := Lib.hid (HA.out.below HW5.out)
            replace HL := Lib.hid (HL.out.below HW5.out)
            replace HO := Lib.hid (HO.out.below HW5.out)
            have hz5 : w.heap.size ≤ w5.heap.size := by omega
            replace HB := Lib.hid (HB.out.trans (HW5.out.mono (by omega)))
            clear hb_w5 HW5 hv5
            obtain ⟨AN, cN, eN, _, _⟩ := HN.out
            subst eN
            go_wp2_with fail
            (go_at_call 24; refine (K1.out _ _ _ (HA.out.set2 (by assumption) (by assumption) _ _) ((HN.out.set2 (by assumption) (by assumption) _ _).zl l1)).mono ?_; rintro e w6 ⟨hb_w6, _, _, rfl, _, _⟩; have hz_w6 := hb_w6.size; (try simp at hz_w6); (with_reducible apply cel2 (b := w2.heap.size + 1) hb_w6); (focus ((try simp) <;> omega)); (focus omega); (focus (go_simp; try exact rfl)); (focus (go_simp; try exact rfl)); (focus (intro o; go_simp)); intro cc cc fz hl; (with_reducible apply cel2 (b := w4.heap.size) hb_w6); (focus ((try simp) <;> omega)); (focus omega); (focus (go_simp; try exact rfl)); (focus (go_simp; try exact rfl)); (focus (intro o; go_simp)); intro cc cc fz hl)
            replace HA := Lib.hid ((HA.out.set2 (by assumption) (by assumption) _ _).below hb_w6)
            replace HL := Lib.hid ((HL.out.set2 (by assumption) (by assumption) _ _).below hb_w6)
            replace HN := Lib.hid ((HN.out.set2 (by assumption) (by assumption) _ _).below hb_w6)
            replace HB := Lib.hid (show Below w.heap.size w w6 by (have hbo := HB.out; ((with_reducible (repeat (first | exact bR _ _ | refine bS ?_ ?_ _ | refine bA ?_ ?_ _ | refine bD ?_ | refine bT ?_ (by assumption) ?_ | refine bO (by assumption) ?_ ?_))) <;> (first | omega | (simp; done) | (simp <;> omega)))))
            have hz6 : w.heap.size ≤ w6.heap.size := HB.out.size
            clear hb_w6
            go_wp2_with fail
            (go_at_call 19; refine (K2.out _ _ _ (HA.out.below ((Below.refl _ _).alloc (Nat.le_refl _) _)) ((HN.out.below ((Below.refl _ _).alloc (Nat.le_refl _) _)).zl l1)).mono ?_; rintro e w7 ⟨hb_w7, _, _, rfl, _, _⟩; have hz_w7 := hb_w7.size; (try simp at hz_w7); (with_reducible apply cel2 (b := w2.heap.size + 1) hb_w7); (focus ((try simp) <;> omega)); (focus omega); (focus (go_simp; try exact rfl)); (focus (go_simp; try exact rfl)); (focus (intro o; go_simp)); intro cc cc fz hl; (with_reducible apply cel2 (b := w4.heap.size) hb_w7); (focus ((try simp) <;> omega)); (focus omega); (focus (go_simp; try exact rfl)); (focus (go_simp; try exact rfl)); (focus (intro o; go_simp)); intro cc cc fz hl)
            have HW7 := Lib.hid (show Below w6.heap.size w6 w7 by ((with_reducible (repeat (first | exact bR _ _ | refine bS ?_ ?_ _ | refine bA ?_ ?_ _ | refine bD ?_ | refine bT ?_ (by assumption) ?_ | refine bO (by assumption) ?_ ?_))) <;> (first | omega | (simp; done) | (simp <;> omega))))
            replace HA := Lib.hid (HA.out.below HW7.out)
            replace HL := Lib.hid (HL.out.below HW7.out)
            replace HN := Lib.hid (HN.out.below HW7.out)
            have hz7 : w.heap.size ≤ w7.heap.size := by omega
            replace HB := Lib.hid (HB.out.trans (HW7.out.mono (by omega)))
            clear hb_w7 HW7
            go_wp2_with fail
            (go_at_call 23; refine (K3.out _ _ _ (HA.out.below ((Below.refl _ _).alloc (Nat.le_refl _) _)) ((HN.out.below ((Below.refl _ _).alloc (Nat.le_refl _) _)).zl l1)).mono ?_; rintro e w8 ⟨hb_w8, _, _, rfl, _, _⟩; have hz_w8 := hb_w8.size; (try simp at hz_w8); (with_reducible apply cel2 (b := w2.heap.size + 1) hb_w8); (focus ((try simp) <;> omega)); (focus omega); (focus (go_simp; try exact rfl)); (focus (go_simp; try exact rfl)); (focus (intro o; go_simp)); intro cc cc fz hl; (with_reducible apply cel2 (b := w4.heap.size) hb_w8); (focus ((try simp) <;> omega)); (focus omega); (focus (go_simp; try exact rfl)); (focus (go_simp; try exact rfl)); (focus (intro o; go_simp)); intro cc cc fz hl)
            have HW8 := Lib.hid (show Below w7.heap.size w7 w8 by ((with_reducible (repeat (first | exact bR _ _ | refine bS ?_ ?_ _ | refine bA ?_ ?_ _ | refine bD ?_ | refine bT ?_ (by assumption) ?_ | refine bO (by assumption) ?_ ?_))) <;> (first | omega | (simp; done) | (simp <;> omega))))
            replace HA := Lib.hid (HA.out.below HW8.out)
            replace HL := Lib.hid (HL.out.below HW8.out)
            replace HN := Lib.hid (HN.out.below HW8.out)
            have hz8 : w.heap.size ≤ w8.heap.size := by omega
            replace HB := Lib.hid (HB.out.trans (HW8.out.mono (by omega)))
            clear hb_w8 HW8
            go_wp2_with fail
            (refine pin_wp (N := _) (Nat.le_refl _) (fun w9 hb_w9 hz_w9 => ?_); (try simp at hz_w9); (with_reducible apply cel2 (b := w2.heap.size + 1) hb_w9); (focus ((try simp) <;> omega)); (focus omega); (focus (go_simp; try exact rfl)); (focus (go_simp; try exact rfl)); (focus (intro o; go_simp)); intro cc cc fz hl; (with_reducible apply cel2 (b := w4.heap.size) hb_w9); (focus ((try simp) <;> omega)); (focus omega); (focus (go_simp; try exact rfl)); (focus (go_simp; try exact rfl)); (focus (intro o; go_simp)); intro cc cc fz hl); refine wp_region_float w9.heap.size 9 (Nat.le_refl _) (fun _ => True) trivial Cl.tt (by kernel_rfl) (by simp) ?_
            have HW9 := Lib.hid (show Below w8.heap.size w8 w9 by ((with_reducible (repeat (first | exact bR _ _ | refine bS ?_ ?_ _ | refine bA ?_ ?_ _ | refine bD ?_ | refine bT ?_ (by assumption) ?_ | refine bO (by assumption) ?_ ?_))) <;> (first | omega | (simp; done) | (simp <;> omega))))
            replace HA := Lib.hid (HA.out.below HW9.out)
            replace HL := Lib.hid (HL.out.below HW9.out)
            replace HN := Lib.hid (HN.out.below HW9.out)
            have hz9 : w.heap.size ≤ w9.heap.size := by omega
            replace HB := Lib.hid (HB.out.trans (HW9.out.mono (by omega)))
            clear hb_w9 HW9
            refine wpI_start [0] ?_; (iterate 1 (first | (refine wpI_off rfl (by kernel_rfl) rfl (fun K hK => ?_); go_simp; refine hK _ ?_; clear hK K) | ((first | apply wpI_step rfl (by kernel_rfl) rfl | apply wpI_on rfl (by kernel_rfl) rfl); (focus (intro W' hS; have hcS := hS.cells.1; have hfS := hS.cells.2; go_simp; (first | done | exact rfl | exact ⟨rfl, Below.refl _ _⟩ | (go_simp; first | done | exact rfl | exact ⟨rfl, Below.refl _ _⟩)))); intro K hK; go_simp; (try go_bits); refine hK _ ?_; clear hK K))); refine wpI_nil ?_
            apply wpF_call (i := 1) rfl (by kernel_rfl) (by kernel_rfl); intro W hF hS; have hcS := hS.1.cells.1; have hfS := hS.1.cells.2; go_simp; (go_at_call 20; refine (iof_any 2 _ (by omega) (by omega)).mono ?_; rintro e w51 ⟨hb_w51, v51, rfl, hv51⟩; refine XPost.mk _ (fun W => IsC W v51 2) hb_w51 (hv51) (IsC.cl _ _) ?_); clear hb_w51 hcS hfS hS hF
            intro K hK; go_simp; (try go_bits); refine hK _ ?_; clear hK K
            clear hv51
            apply wpF_call (i := 2) rfl (by kernel_rfl) (by kernel_rfl); intro W hF hS; have hcS := hS.1.cells.1; have hfS := hS.1.cells.2; go_simp; (go_at_call 23; refine (K4.out _ _ _ (HA.out.below hS.1.2) (hF.zl l2)).mono ?_; rintro e w52 ⟨hb_w52, A52, c52, rfl, _, _⟩; refine XPost.mk _ (fun _ => True) hb_w52 (trivial) (Cl.tt) ?_); clear hb_w52 hcS hfS hS hF
            intro K hK; go_simp; (try go_bits); refine hK _ ?_; clear hK K
            refine wpI_start [3, 4, 5] ?_; (iterate 3 (first | (refine wpI_off rfl (by kernel_rfl) rfl (fun K hK => ?_); go_simp; refine hK _ ?_; clear hK K) | ((first | apply wpI_step rfl (by kernel_rfl) rfl | apply wpI_on rfl (by kernel_rfl) rfl); (focus (intro W' hS; have hcS := hS.cells.1; have hfS := hS.cells.2; go_simp; (first | done | exact rfl | exact ⟨rfl, Below.refl _ _⟩ | (go_simp; first | done | exact rfl | exact ⟨rfl, Below.refl _ _⟩)))); intro K hK; go_simp; (try go_bits); refine hK _ ?_; clear hK K))); refine wpI_nil ?_
            refine wpF_fresh2 (i := 6) (fun F G G' a h hL w' hF hS => hL w' hF (hS.same (fun p => (h p).symm))) rfl (by kernel_rfl) _ (by intro W; go_simp; first | done | exact rfl) ?_
            intro g_6 hN_6 hG_6 K hK
            go_simp; refine hK _ ?_; clear hK K
            apply wpF_wild (i := 7) rfl (by kernel_rfl) (by kernel_rfl); intro W hF hS; have hcS := hS.1.cells.1; have hfS := hS.1.cells.2; have k4 := C2.of_row (hS.2 _ (List.mem_cons_self ..)).2; have a0 := k4.1; have a1 := k4.2.1; have a2 := k4.2.2; have a3 := k4.lt; go_simp
            refine WPost.mk _ (fun _ => True) [] trivial Cl.tt ⟨(hS.1.setCell hN_6 _).setCell hN_6 _, fun p hp => by cases hp⟩ ?_
            clear k4 a0 a1 a2 a3 hcS hfS hS hF
            intro K hK; go_simp; refine hK _ ?_; clear hK K
            refine wpI_start [8] ?_; (iterate 1 (first | (refine wpI_off rfl (by kernel_rfl) rfl (fun K hK => ?_); go_simp; refine hK _ ?_; clear hK K) | ((first | apply wpI_step rfl (by kernel_rfl) rfl | apply wpI_on rfl (by kernel_rfl) rfl); (focus (intro W' hS; have hcS := hS.cells.1; have hfS := hS.cells.2; go_simp; (first | done | exact rfl | exact ⟨rfl, Below.refl _ _⟩ | (go_simp; first | done | exact rfl | exact ⟨rfl, Below.refl _ _⟩)))); intro K hK; go_simp; (try go_bits); refine hK _ ?_; clear hK K))); refine wpI_nil ?_
            refine wpF_done (by kernel_rfl) ?_
            intro w10 hF_w10 hSG
            have hz_w10 := hSG.1.1
            have hb_w10 := hSG.1.2
            clear hSG
            (with_reducible apply cel2 (b := w2.heap.size + 1) hb_w10); (focus ((try simp) <;> omega)); (focus omega); (focus (go_simp; try exact rfl)); (focus (go_simp; try exact rfl)); (focus (intro o; go_simp)); intro cc cc fz hl; (with_reducible apply cel2 (b := w4.heap.size) hb_w10); (focus ((try simp) <;> omega)); (focus omega); (focus (go_simp; try exact rfl)); (focus (go_simp; try exact rfl)); (focus (intro o; go_simp)); intro cc cc fz hl
            (try simp only [List.drop_succ_cons, List.drop_zero])
            clear hF_w10
            have HW10 := Lib.hid (show Below w9.heap.size w9 w10 by exact hb_w10)
            replace HA := Lib.hid (HA.out.below HW10.out)
            replace HL := Lib.hid (HL.out.below HW10.out)
            replace HN := Lib.hid (HN.out.below HW10.out)
            have hz10 : w.heap.size ≤ w10.heap.size := by omega
            replace HB := Lib.hid (HB.out.trans (HW10.out.mono (by omega)))
            clear hb_w10 HW10
            go_wp2_with fail
            (go_at_call 22; refine (K5.out _ _ _ (HA.out.below (Below.refl _ _)) ((HN.out.below (Below.refl _ _)).zl l1)).mono ?_; rintro e w11 ⟨hb_w11, _, _, _, _, rfl, _, _, _, _⟩; have hz_w11 := hb_w11.size; (try simp at hz_w11); (with_reducible apply cel2 (b := w2.heap.size + 1) hb_w11); (focus ((try simp) <;> omega)); (focus omega); (focus (go_simp; try exact rfl)); (focus (go_simp; try exact rfl)); (focus (intro o; go_simp)); intro cc cc fz hl; (with_reducible apply cel2 (b := w4.heap.size) hb_w11); (focus ((try simp) <;> omega)); (focus omega); (focus (go_simp; try exact rfl)); (focus (go_simp; try exact rfl)); (focus (intro o; go_simp)); intro cc cc fz hl)
            have HW11 := Lib.hid (show Below w10.heap.size w10 w11 by ((with_reducible (repeat (first | exact bR _ _ | refine bS ?_ ?_ _ | refine bA ?_ ?_ _ | refine bD ?_ | refine bT ?_ (by assumption) ?_ | refine bO (by assumption) ?_ ?_))) <;> (first | omega | (simp; done) | (simp <;> omega))))
            replace HA := Lib.hid (HA.out.below HW11.out)
            replace HL := Lib.hid (HL.out.below HW11.out)
            replace HN := Lib.hid (HN.out.below HW11.out)
            have hz11 : w.heap.size ≤ w11.heap.size := by omega
            replace HB := Lib.hid (HB.out.trans (HW11.out.mono (by omega)))
            clear hb_w11 HW11
            go_wp2_with fail
            (go_at_call 26; refine (K6.out _ _ _ (HA.out.below (((Below.refl _ _).alloc (Nat.le_refl _) _).alloc (by simp) _)) ((HN.out.below (((Below.refl _ _).alloc (Nat.le_refl _) _).alloc (by simp) _)).zl l1)).mono ?_; rintro e w12 ⟨hb_w12, _, _, rfl, _, _⟩; have hz_w12 := hb_w12.size; (try simp at hz_w12); (with_reducible apply cel2 (b := w2.heap.size + 1) hb_w12); (focus ((try simp) <;> omega)); (focus omega); (focus (go_simp; try exact rfl)); (focus (go_simp; try exact rfl)); (focus (intro o; go_simp)); intro cc cc fz hl; (with_reducible apply cel2 (b := w4.heap.size) hb_w12); (focus ((try simp) <;> omega)); (focus omega); (focus (go_simp; try exact rfl)); (focus (go_simp; try exact rfl)); (focus (intro o; go_simp)); intro cc cc fz hl)
            have HW12 := Lib.hid (show Below w11.heap.size w11 w12 by ((with_reducible (repeat (first | exact bR _ _ | refine bS ?_ ?_ _ | refine bA ?_ ?_ _ | refine bD ?_ | refine bT ?_ (by assumption) ?_ | refine bO (by assumption) ?_ ?_))) <;> (first | omega | (simp; done) | (simp <;> omega))))
            replace HA := Lib.hid (HA.out.below HW12.out)
            replace HL := Lib.hid (HL.out.below HW12.out)
            replace HN := Lib.hid (HN.out.below HW12.out)
            have hz12 : w.heap.size ≤ w12.heap.size := by omega
            replace HB := Lib.hid (HB.out.trans (HW12.out.mono (by omega)))
            clear hb_w12 HW12
            go_wp2_with fail
            (go_at_call 18; refine (K7.out _ _ (HA.out.below ((Below.refl _ _).alloc (Nat.le_refl _) _))).mono ?_; rintro e w13 ⟨hb_w13, _, _, rfl, _, _⟩; have hz_w13 := hb_w13.size; (try simp at hz_w13); (with_reducible apply cel2 (b := w2.heap.size + 1) hb_w13); (focus ((try simp) <;> omega)); (focus omega); (focus (go_simp; try exact rfl)); (focus (go_simp; try exact rfl)); (focus (intro o; go_simp)); intro cc cc fz hl; (with_reducible apply cel2 (b := w4.heap.size) hb_w13); (focus ((try simp) <;> omega)); (focus omega); (focus (go_simp; try exact rfl)); (focus (go_simp; try exact rfl)); (focus (intro o; go_simp)); intro cc cc fz hl)
            have HW13 := Lib.hid (show Below w12.heap.size w12 w13 by ((with_reducible (repeat (first | exact bR _ _ | refine bS ?_ ?_ _ | refine bA ?_ ?_ _ | refine bD ?_ | refine bT ?_ (by assumption) ?_ | refine bO (by assumption) ?_ ?_))) <;> (first | omega | (simp; done) | (simp <;> omega))))
            replace HA := Lib.hid (HA.out.below HW13.out)
            replace HL := Lib.hid (HL.out.below HW13.out)
            replace HN := Lib.hid (HN.out.below HW13.out)
            have hz13 : w.heap.size ≤ w13.heap.size := by omega
            replace HB := Lib.hid (HB.out.trans (HW13.out.mono (by omega)))
            clear hb_w13 HW13
            go_wp2_with fail
            (go_at_call 18; refine (K8.out _ _ (HA.out.below ((Below.refl _ _).alloc (Nat.le_refl _) _))).mono ?_; rintro e w14 ⟨hb_w14, _, _, rfl, _, _⟩; have hz_w14 := hb_w14.size; (try simp at hz_w14); (with_reducible apply cel2 (b := w2.heap.size + 1) hb_w14); (focus ((try simp) <;> omega)); (focus omega); (focus (go_simp; try exact rfl)); (focus (go_simp; try exact rfl)); (focus (intro o; go_simp)); intro cc cc fz hl; (with_reducible apply cel2 (b := w4.heap.size) hb_w14); (focus ((try simp) <;> omega)); (focus omega); (focus (go_simp; try exact rfl)); (focus (go_simp; try exact rfl)); (focus (intro o; go_simp)); intro cc cc fz hl)
            have HW14 := Lib.hid (show Below w13.heap.size w13 w14 by ((with_reducible (repeat (first | exact bR _ _ | refine bS ?_ ?_ _ | refine bA ?_ ?_ _ | refine bD ?_ | refine bT ?_ (by assumption) ?_ | refine bO (by assumption) ?_ ?_))) <;> (first | omega | (simp; done) | (simp <;> omega))))
            replace HA := Lib.hid (HA.out.below HW14.out)
            replace HL := Lib.hid (HL.out.below HW14.out)
            replace HN := Lib.hid (HN.out.below HW14.out)
            have hz14 : w.heap.size ≤ w14.heap.size := by omega
            replace HB := Lib.hid (HB.out.trans (HW14.out.mono (by omega)))
            clear hb_w14 HW14
            go_wp2_with fail
            (go_at_call 14; refine (K9.out _ _ (HA.out.below ((Below.refl _ _).alloc (Nat.le_refl _) _))).mono ?_; rintro e w15 ⟨rfl, hb_w15⟩; have hz_w15 := hb_w15.size; (try simp at hz_w15); (with_reducible apply cel2 (b := w2.heap.size + 1) hb_w15); (focus ((try simp) <;> omega)); (focus omega); (focus (go_simp; try exact rfl)); (focus (go_simp; try exact rfl)); (focus (intro o; go_simp)); intro cc cc fz hl; (with_reducible apply cel2 (b := w4.heap.size) hb_w15); (focus ((try simp) <;> omega)); (focus omega); (focus (go_simp; try exact rfl)); (focus (go_simp; try exact rfl)); (focus (intro o; go_simp)); intro cc cc fz hl)
            have HW15 := Lib.hid (show Below w14.heap.size w14 w15 by ((with_reducible (repeat (first | exact bR _ _ | refine bS ?_ ?_ _ | refine bA ?_ ?_ _ | refine bD ?_ | refine bT ?_ (by assumption) ?_ | refine bO (by assumption) ?_ ?_))) <;> (first | omega | (simp; done) | (simp <;> omega))))
            replace HA := Lib.hid (HA.out.below HW15.out)
            replace HL := Lib.hid (HL.out.below HW15.out)
            replace HN := Lib.hid (HN.out.below HW15.out)
            have hz15 : w.heap.size ≤ w15.heap.size := by omega
            replace HB := Lib.hid (HB.out.trans (HW15.out.mono (by omega)))
            clear hb_w15 HW15
            go_wp2_with (at_builtin; go_must (refine wpList_append_limbs rfl _ _ rfl w15.heap.size (.slice none 0 0) [] rfl (OwnL.nil _ _) (some ⟨w2.heap.size, 0, none⟩) k L (by rw [HLK.out]; rfl) (HL.out) (by rw [HLK.out, List.length_nil]; omega) (Nat.le_refl _) ?_))
            intro va wa howna hga
            have HWa := Lib.hid ((Below.refl w15.heap.size w15).grown hga (Nat.le_refl _) (by simp [Value.ownBlock]))
            obtain ⟨Aa, ca, rfl, hca, _, _⟩ := lat_of_own howna
            have HOa := Lib.hid howna
            have hza := HWa.out.size
            clear hga howna
            go_wp2_with (at_builtin; go_must (refine wpList_append_limbs rfl _ _ rfl w15.heap.size _ L rfl (HOa.out.alloc _) (some ⟨wa.heap.size, 0, none⟩) 2 [0, 0] rfl (lat_two (by simp) (by go_simp) (by go_simp)) (by have hq := HLK.out; simp; omega) (by simp; omega) ?_))
            intro vb wb hownb hgb
            have HWb := Lib.hid ((HWa.out.alloc hza (.cells #[.int .u32 0, .int .u32 0] 50)).grown hgb (by simp; omega) HOa.out.fresh)
            obtain ⟨Ab, cb, rfl, hcb, _, hAb⟩ := lat_of_own hownb
            have HT := Lib.hid (KT.out () Ab cb wb hcb hAb)
            have hb_wb := HWb.out
            have hz_wb : w15.heap.size ≤ wb.heap.size := HWb.out.size
            (with_reducible apply cel2 (b := w2.heap.size + 1) hb_wb); (focus ((try simp) <;> omega)); (focus omega); (focus (go_simp; try exact rfl)); (focus (go_simp; try exact rfl)); (focus (intro o; go_simp)); intro cc cc fz hl; (with_reducible apply cel2 (b := w4.heap.size) hb_wb); (focus ((try simp) <;> omega)); (focus omega); (focus (go_simp; try exact rfl)); (focus (go_simp; try exact rfl)); (focus (intro o; go_simp)); intro cc cc fz hl
            have HAb := Lib.hid (HA.out.below HWb.out)
            have HBb := Lib.hid (HB.out.trans (HWb.out.mono (by omega)))
            clear hgb hownb hAb hb_wb
            go_wp2_with fail
            (go_at_call 31; refine (HT.out).mono ?_; rintro e w70 ⟨hb_w70, A70, c70, rfl⟩; have hz_w70 := hb_w70.size; (try simp at hz_w70); (with_reducible apply cel2 (b := w2.heap.size + 1) hb_w70); (focus ((try simp) <;> omega)); (focus omega); (focus (go_simp; try exact rfl)); (focus (go_simp; try exact rfl)); (focus (intro o; go_simp)); intro cc cc fz hl; (with_reducible apply cel2 (b := w4.heap.size) hb_w70); (focus ((try simp) <;> omega)); (focus omega); (focus (go_simp; try exact rfl)); (focus (go_simp; try exact rfl)); (focus (intro o; go_simp)); intro cc cc fz hl)
            have HA70 := Lib.hid (HAb.out.below hb_w70)
            have HB70 := Lib.hid (HBb.out.trans (hb_w70.mono (by omega)))
            have hz70 : w.heap.size ≤ w70.heap.size := by omega
            clear hb_w70
            go_wp2_with fail
            -- own blocks besides: w70.heap.size:2
            (go_at_call 32; refine (K10.out _ _ (HA70.out.below ((Below.refl _ _).alloc (Nat.le_refl _) _))).mono ?_; rintro e w71 ⟨rfl, hb_w71⟩; have hz_w71 := hb_w71.size; (try simp at hz_w71); (with_reducible apply cel2 (b := w2.heap.size + 1) hb_w71); (focus ((try simp) <;> omega)); (focus omega); (focus (go_simp; try exact rfl)); (focus (go_simp; try exact rfl)); (focus (intro o; go_simp)); intro cc cc fz hl; (with_reducible apply cel2 (b := w4.heap.size) hb_w71); (focus ((try simp) <;> omega)); (focus omega); (focus (go_simp; try exact rfl)); (focus (go_simp; try exact rfl)); (focus (intro o; go_simp)); intro cc cc fz hl; (with_reducible apply cel2 (b := w70.heap.size) hb_w71); (focus ((try simp) <;> omega)); (focus omega); (focus (go_simp; try exact rfl)); (focus (go_simp; try exact rfl)); (focus (intro o; go_simp)); intro cc cc fz hl)
            have HW71 := Lib.hid (show Below w70.heap.size w70 w71 by ((with_reducible (repeat (first | exact bR _ _ | refine bS ?_ ?_ _ | refine bA ?_ ?_ _ | refine bD ?_ | refine bT ?_ (by assumption) ?_ | refine bO (by assumption) ?_ ?_))) <;> (first | omega | (simp; done) | (simp <;> omega))))
            go_wp2_with fail
            go_ret
            exact ⟨ret_bool (by first | rfl | simp | (simp; omega)), HB70.out.trans (HW71.out.mono hz70)⟩
theorem own : ownKnob Try.prog.godebug = none := by kernel_rfl
theorem laidOut : laidOutB Try.prog = true := by kernel_rfl
set_option maxRecDepth 100000 in
theorem lifted (os : Os) (started : os.Started) (H : Type) (enc : TypeId × Value → H) :
    ReturnsInHanded {} Try.checked os 8 .any (Rows.integerLimitsSpec.pre6 enc Try.prog Try.f8 Rows.integerLimitsRow.domain false) (Rows.integerLimitsSpec.post enc Try.prog Try.f8 false true false false) := by
  refine returnsInHanded_of_change (C := Try.checked) own started (by kernel_rfl) Try.func8
    (ChangeSpec.witness6 (enc := enc) (C := Try.checked) false ⟨#[], #[.int .i64 0, .bool false], []⟩ 8 (by kernel_rfl) (by kernel_rfl) (by kernel_rfl) (by kernel_rfl)) ?_
  intro W base args ds gs before hval0 hW hcnd _
  have hval : ∀ (j : Nat) t v, Try.f8.params[j]? = some t → args[j]? = some v → Value.okWide Try.prog W .any base t v := hval0
  have hW' := hW
  obtain ⟨p, q, hA0, hV, rfl, hfz, hnd⟩ := hW
  have hA : DataW.TrodAll enc Try.prog W 0 (fun _ => true) true Try.f8.params.toList args.toList ds p := hA0
  rw [Try.params8] at hA hval
  obtain ⟨v0, vs0, d0, ds0, p0, q0, hargs, rfl, rfl, h0, r0⟩ := trodAll_cons hA
  obtain ⟨v1, vs1, d1, ds1, p1, q1, rfl, rfl, rfl, h1, r1⟩ := trodAll_cons r0
  obtain ⟨rfl, rfl, rfl⟩ := trodAll_nil r1
  obtain rfl : args = #[v0, v1] := by cases args; simp_all
  obtain ⟨rfl, rfl⟩ := trodVars_none hV
  obtain ⟨a0, rfl, rfl, rfl, w0⟩ := open_int Try.underlying3 (hval 0 3 v0 rfl rfl) h0
  obtain ⟨a1, rfl, rfl, rfl⟩ := open_bool Try.underlying4 (hval 1 4 v1 rfl rfl) h1
  clear hA0 hval0
  refine (walk W a0 w0 a1).mono fun e W' ⟨he, bel⟩ => ?_
  subst he
  exact ⟨_, rfl, _, _, _, [], _, [], hW', trodAll_mk1 (shut_bool Try.underlying4 _), (trodAll_cons_mk (shut_int Try.underlying3 w0) (trodAll_cons_mk (shut_bool Try.underlying4 a1) trodAll_mk0)), rfl, bel.frame _, fun h => by cases h⟩

theorem over : Rows.integerLimitsRow.holds Try.pinned (OpenSpec.ofChange Rows.integerLimitsSpec) :=
  OpenClaim.holds_of_wide 8 Try.f8 rfl rfl rfl rfl rfl rfl rfl ⟨rfl, rfl, rfl, rfl, rfl⟩ rfl rfl rfl rfl rfl (by kernel_rfl) Try.func8 (by kernel_rfl)
    (of_decide_eq_true (by kernel_rfl)) (by unfold Func.isWrapper; first | (rw [if_pos (by decide +kernel)]; kernel_rfl) | (rw [if_neg (by decide +kernel)]; exact ⟨rfl, rfl⟩))
    (fun os started H enc _ => lifted os started H enc)

theorem proved : Rows.IntegerLimitsSaid := over
#print axioms proved
end Go.Proofs.Ytadkcipjcmkoiaa.lawIL
