/- Law IntegerExact returns true for every two integers and every number. No conditions. -/
import Derived.Test.YtadkcipjcmkoiaaSm
import Derived.Test.YtadkcipjcmkoiaaRd
import Derived.Test.YtadkcipjcmkoiaaDrawOn
namespace Go.Proofs.Ytadkcipjcmkoiaa.lawIE
open Go.ChangeShapes Go.WideShapes Go.ChangeAt Go.RowKit
set_option linter.unusedVariables false
theorem same_ref (u v : Value) (z : Int) (w : World) (hu : IsC w u z) (hv : IsC w v z) (hl : (canN z.natAbs).length ≤ 1000000) :
    Calls Try.prog 39 #[u, v] w fun e w' => e = .returned (.bool true) ∧ Below w.heap.size w w' := by
  have hs := same_any u v z z w hu hv hl hl
  rwa [decide_eq_true rfl] at hs
theorem addR_len (a b : Int) : (canN (addR a b).1.natAbs).length ≤ 256 := by unfold addR; split; exact len_zero256; exact sizedR_len _
theorem subR_len (a b : Int) : (canN (subR a b).1.natAbs).length ≤ 256 := by unfold subR; split; exact len_zero256; exact sizedR_len _
theorem mulR_len (a b : Int) : (canN (mulR a b).1.natAbs).length ≤ 256 := by unfold mulR; split; exact len_zero256; exact sizedR_len _
theorem quoR_len {a b : Int} {n : Nat} (h : (canN a.natAbs).length ≤ n) : (canN (quoR a b).1.natAbs).length ≤ max n 256 ∧ (canN (quoR a b).2.1.natAbs).length ≤ max n 256 := by
  have hz := len_zero256
  unfold quoR
  split
  · exact ⟨by show (canN (0 : Int).natAbs).length ≤ _; omega, by show (canN (0 : Int).natAbs).length ≤ _; omega⟩
  · split
    · exact ⟨by show (canN (0 : Int).natAbs).length ≤ _; omega, by show (canN (0 : Int).natAbs).length ≤ _; omega⟩
    · constructor
      · show (canN (a.tdiv b).natAbs).length ≤ _
        have : (canN (a.tdiv b).natAbs).length ≤ (canN a.natAbs).length := canN_mono (by rw [Int.natAbs_tdiv]; exact Nat.div_le_self _ _)
        omega
      · show (canN (a.tmod b).natAbs).length ≤ _
        have : (canN (a.tmod b).natAbs).length ≤ (canN a.natAbs).length := canN_mono (by rw [Int.natAbs_tmod]; exact Nat.mod_le _ _)
        omega
theorem gcdR_len {a b : Int} {n : Nat} (ha : (canN a.natAbs).length ≤ n) (hb : (canN b.natAbs).length ≤ n) : (canN (gcdR a b).1.natAbs).length ≤ max n 256 := by
  unfold gcdR
  split
  · have := len_zero256; show (canN (0 : Int).natAbs).length ≤ _; omega
  · show (canN ((Nat.gcd a.natAbs b.natAbs : Nat) : Int).natAbs).length ≤ _
    rw [Int.natAbs_natCast]
    have := gcd_len ha hb
    omega
theorem len_dn {z : Int} {n k : Nat} (h : (canN z.natAbs).length ≤ n) : (canN (z / 2 ^ k).natAbs).length ≤ n := by
  refine Nat.le_trans (canN_mono ?_) h
  have hp : (0 : Int) < 2 ^ k := Int.pow_pos (by decide)
  rcases Int.lt_or_le z 0 with hz | hz
  · have h4 : z / 2 ^ k < 0 := Int.ediv_neg_of_neg_of_pos hz hp
    have h5 : z ≤ z / 2 ^ k := Int.le_ediv_of_mul_le hp (by
      have : z * 2 ^ k ≤ z * 1 := Int.mul_le_mul_of_nonpos_left (by omega) (by omega)
      omega)
    omega
  · have h4 : 0 ≤ z / 2 ^ k := Int.ediv_nonneg hz (Int.le_of_lt hp)
    have h5 : z / 2 ^ k ≤ z := Int.ediv_le_self _ hz
    omega
theorem shiftR_len {a : Int} {m : Nat} (n : Int) (h : (canN a.natAbs).length ≤ m) (hm : m ≤ 256) : (canN (shiftR a n).1.natAbs).length ≤ 256 := by
  unfold shiftR
  split
  · exact len_zero256
  · split
    · exact len_zero256
    · split
      · exact len_zero256
      · split
        · exact Nat.le_trans (len_dn h) hm
        · exact sizedR_len _
set_option maxRecDepth 100000 in
set_option maxHeartbeats 2000000 in
theorem long (p1 p2 : Bool) (A1 A2 : Option Addr) (n1 n2 c1 c2 : Nat) (n : Int) (w : World) (h : ¬ (n1 ≤ 40 ∧ n2 ≤ 40 ∧ n ≤ 4000)) (h1 : n1 ≤ maxLen) (h2 : n2 ≤ maxLen) :
    Calls Try.prog 9 #[.agg #[.bool p1, .slice A1 n1 c1], .agg #[.bool p2, .slice A2 n2 c2], .int .i64 n] w fun e w' => e = .returned (.bool true) ∧ Below w.heap.size w w' := by
  unfold maxLen at h1 h2
  have f1 := fun w => few_any p1 A1 n1 c1 w (by omega)
  have f2 := fun w => few_any p2 A2 n2 c2 w (by omega)
  obtain ⟨b1, e1⟩ : ∃ b, b = decide (n1 ≤ 40) := ⟨_, rfl⟩
  obtain ⟨b2, e2⟩ : ∃ b, b = decide (n2 ≤ 40) := ⟨_, rfl⟩
  have hq : ¬ (b1 = true ∧ b2 = true ∧ n ≤ 4000) := by
    rw [e1, e2, decide_eq_true_iff, decide_eq_true_iff]; exact h
  rw [← e1] at f1
  rw [← e2] at f2
  have F1 := Lib.hid f1
  have F2 := Lib.hid f2
  clear f1 f2 e1 e2 h
  go_enter Try.func9, Try.ntmps9; (try simp only [List.append_eq, List.cons_append, List.nil_append])
  go_wp2_with fail
  -- own blocks: w.heap.size:2, w.heap.size + 1:2
  (go_at_call 10; refine (awake01_any _).mono ?_; rintro e w1 ⟨rfl, hb_w1⟩; have hz_w1 := hb_w1.size; (try simp at hz_w1); (with_reducible apply cel2 (b := w.heap.size) hb_w1); (focus ((try simp) <;> omega)); (focus omega); (focus (go_simp; try exact rfl)); (focus (go_simp; try exact rfl)); (focus (intro o; go_simp)); intro cc cc fz hl; (with_reducible apply cel2 (b := w.heap.size + 1) hb_w1); (focus ((try simp) <;> omega)); (focus omega); (focus (go_simp; try exact rfl)); (focus (go_simp; try exact rfl)); (focus (intro o; go_simp)); intro cc cc fz hl)
  cases b1
  · go_wp2_with fail
    (go_at_call 11; refine (F1.out _).mono ?_; rintro e w2 ⟨rfl, hb_w2⟩; have hz_w2 := hb_w2.size; (try simp at hz_w2); (with_reducible apply cel2 (b := w.heap.size) hb_w2); (focus ((try simp) <;> omega)); (focus omega); (focus (go_simp; try exact rfl)); (focus (go_simp; try exact rfl)); (focus (intro o; go_simp)); intro cc cc fz hl; (with_reducible apply cel2 (b := w.heap.size + 1) hb_w2); (focus ((try simp) <;> omega)); (focus omega); (focus (go_simp; try exact rfl)); (focus (go_simp; try exact rfl)); (focus (intro o; go_simp)); intro cc cc fz hl)
    go_wp2_with fail
    (go_at_call 10; refine (awake01_any _).mono ?_; rintro e w3 ⟨rfl, hb_w3⟩; have hz_w3 := hb_w3.size; (try simp at hz_w3); (with_reducible apply cel2 (b := w.heap.size) hb_w3); (focus ((try simp) <;> omega)); (focus omega); (focus (go_simp; try exact rfl)); (focus (go_simp; try exact rfl)); (focus (intro o; go_simp)); intro cc cc fz hl; (with_reducible apply cel2 (b := w.heap.size + 1) hb_w3); (focus ((try simp) <;> omega)); (focus omega); (focus (go_simp; try exact rfl)); (focus (go_simp; try exact rfl)); (focus (intro o; go_simp)); intro cc cc fz hl)
    go_wp2_with fail
    go_ret
    exact ⟨rfl, by ((with_reducible (repeat (first | exact bR _ _ | refine bS ?_ ?_ _ | refine bA ?_ ?_ _ | refine bD ?_ | refine bT ?_ (by assumption) ?_ | refine bO (by assumption) ?_ ?_))) <;> (first | omega | (simp; done) | (simp <;> omega)))⟩
  · cases b2
    · go_wp2_with fail
      (go_at_call 11; refine (F1.out _).mono ?_; rintro e w2 ⟨rfl, hb_w2⟩; have hz_w2 := hb_w2.size; (try simp at hz_w2); (with_reducible apply cel2 (b := w.heap.size) hb_w2); (focus ((try simp) <;> omega)); (focus omega); (focus (go_simp; try exact rfl)); (focus (go_simp; try exact rfl)); (focus (intro o; go_simp)); intro cc cc fz hl; (with_reducible apply cel2 (b := w.heap.size + 1) hb_w2); (focus ((try simp) <;> omega)); (focus omega); (focus (go_simp; try exact rfl)); (focus (go_simp; try exact rfl)); (focus (intro o; go_simp)); intro cc cc fz hl)
      go_wp2_with fail
      (go_at_call 11; refine (F2.out _).mono ?_; rintro e w3 ⟨rfl, hb_w3⟩; have hz_w3 := hb_w3.size; (try simp at hz_w3); (with_reducible apply cel2 (b := w.heap.size) hb_w3); (focus ((try simp) <;> omega)); (focus omega); (focus (go_simp; try exact rfl)); (focus (go_simp; try exact rfl)); (focus (intro o; go_simp)); intro cc cc fz hl; (with_reducible apply cel2 (b := w.heap.size + 1) hb_w3); (focus ((try simp) <;> omega)); (focus omega); (focus (go_simp; try exact rfl)); (focus (go_simp; try exact rfl)); (focus (intro o; go_simp)); intro cc cc fz hl)
      go_wp2_with fail
      (go_at_call 10; refine (awake01_any _).mono ?_; rintro e w4 ⟨rfl, hb_w4⟩; have hz_w4 := hb_w4.size; (try simp at hz_w4); (with_reducible apply cel2 (b := w.heap.size) hb_w4); (focus ((try simp) <;> omega)); (focus omega); (focus (go_simp; try exact rfl)); (focus (go_simp; try exact rfl)); (focus (intro o; go_simp)); intro cc cc fz hl; (with_reducible apply cel2 (b := w.heap.size + 1) hb_w4); (focus ((try simp) <;> omega)); (focus omega); (focus (go_simp; try exact rfl)); (focus (go_simp; try exact rfl)); (focus (intro o; go_simp)); intro cc cc fz hl)
      go_wp2_with fail
      go_ret
      exact ⟨rfl, by ((with_reducible (repeat (first | exact bR _ _ | refine bS ?_ ?_ _ | refine bA ?_ ?_ _ | refine bD ?_ | refine bT ?_ (by assumption) ?_ | refine bO (by assumption) ?_ ?_))) <;> (first | omega | (simp; done) | (simp <;> omega)))⟩
    · have hn : 4000 < n := by
        rcases Int.lt_or_le 4000 n with g | g
        · exact g
        · exact absurd ⟨rfl, rfl, g⟩ hq
      clear hq
      go_wp2_with fail
      (go_at_call 11; refine (F1.out _).mono ?_; rintro e w2 ⟨rfl, hb_w2⟩; have hz_w2 := hb_w2.size; (try simp at hz_w2); (with_reducible apply cel2 (b := w.heap.size) hb_w2); (focus ((try simp) <;> omega)); (focus omega); (focus (go_simp; try exact rfl)); (focus (go_simp; try exact rfl)); (focus (intro o; go_simp)); intro cc cc fz hl; (with_reducible apply cel2 (b := w.heap.size + 1) hb_w2); (focus ((try simp) <;> omega)); (focus omega); (focus (go_simp; try exact rfl)); (focus (go_simp; try exact rfl)); (focus (intro o; go_simp)); intro cc cc fz hl)
      go_wp2_with fail
      (go_at_call 11; refine (F2.out _).mono ?_; rintro e w3 ⟨rfl, hb_w3⟩; have hz_w3 := hb_w3.size; (try simp at hz_w3); (with_reducible apply cel2 (b := w.heap.size) hb_w3); (focus ((try simp) <;> omega)); (focus omega); (focus (go_simp; try exact rfl)); (focus (go_simp; try exact rfl)); (focus (intro o; go_simp)); intro cc cc fz hl; (with_reducible apply cel2 (b := w.heap.size + 1) hb_w3); (focus ((try simp) <;> omega)); (focus omega); (focus (go_simp; try exact rfl)); (focus (go_simp; try exact rfl)); (focus (intro o; go_simp)); intro cc cc fz hl)
      go_wp2_with fail
      (go_at_call 10; refine (awake01_any _).mono ?_; rintro e w4 ⟨rfl, hb_w4⟩; have hz_w4 := hb_w4.size; (try simp at hz_w4); (with_reducible apply cel2 (b := w.heap.size) hb_w4); (focus ((try simp) <;> omega)); (focus omega); (focus (go_simp; try exact rfl)); (focus (go_simp; try exact rfl)); (focus (intro o; go_simp)); intro cc cc fz hl; (with_reducible apply cel2 (b := w.heap.size + 1) hb_w4); (focus ((try simp) <;> omega)); (focus omega); (focus (go_simp; try exact rfl)); (focus (go_simp; try exact rfl)); (focus (intro o; go_simp)); intro cc cc fz hl)
      go_wp2_with fail
      go_ret
      exact ⟨rfl, by ((with_reducible (repeat (first | exact bR _ _ | refine bS ?_ ?_ _ | refine bA ?_ ?_ _ | refine bD ?_ | refine bT ?_ (by assumption) ?_ | refine bO (by assumption) ?_ ?_))) <;> (first | omega | (simp; done) | (simp <;> omega)))⟩
set_option maxRecDepth 100000 in
set_option maxHeartbeats 40000000 in
theorem short (p1 p2 : Bool) (A1 A2 : Option Addr) (n1 n2 c1 c2 : Nat) (z1 z2 n : Int) (w : World) (h1 : n1 ≤ 40) (h2 : n2 ≤ 40) (h3 : n ≤ 4000) (hn0 : -9223372036854775808 ≤ n) (hn1 : n ≤ 9223372036854775807)
    (hA : IsZ w (.agg #[.bool p1, .slice A1 n1 c1]) 40 z1) (hB : IsZ w (.agg #[.bool p2, .slice A2 n2 c2]) 40 z2) :
    Calls Try.prog 9 #[.agg #[.bool p1, .slice A1 n1 c1], .agg #[.bool p2, .slice A2 n2 c2], .int .i64 n] w fun e w' => e = .returned (.bool true) ∧ Below w.heap.size w w' := by
  have la := isZ_len hA
  have lb := isZ_len hB
  obtain ⟨zs, es, hzs⟩ : ∃ q e, addR z1 z2 = (q, e) := ⟨_, _, rfl⟩
  have lzs := addR_len z1 z2
  rw [hzs] at lzs
  have k1 := fun u v w h1 h2 => iadd_any 100 u v z1 z2 w h1 h2 (by omega)
  have j1 := fun u v w h1 h2 => radd_any 100 u v z1 z2 w h1 h2 (by omega)
  rw [hzs] at k1 j1
  obtain ⟨zd, ed, hzd⟩ : ∃ q e, subR z1 z2 = (q, e) := ⟨_, _, rfl⟩
  have lzd := subR_len z1 z2
  rw [hzd] at lzd
  have k2 := fun u v w h1 h2 => isub_any 100 u v z1 z2 w h1 h2 (by omega)
  have j2 := fun u v w h1 h2 => rsub_any 100 u v z1 z2 w h1 h2 (by omega)
  rw [hzd] at k2 j2
  obtain ⟨zp, ep, hzp⟩ : ∃ q e, mulR z1 z2 = (q, e) := ⟨_, _, rfl⟩
  have lzp := mulR_len z1 z2
  rw [hzp] at lzp
  have k3 := fun u v w h1 h2 => imul_any 100 u v z1 z2 w h1 h2 (by omega)
  have j3 := fun u v w h1 h2 => rmul_any 100 u v z1 z2 w h1 h2 (by omega)
  rw [hzp] at k3 j3
  obtain ⟨zq, zr, eq, hzq⟩ : ∃ q r e, quoR z1 z2 = (q, r, e) := ⟨_, _, _, rfl⟩
  have lzq := quoR_len (b := z2) la
  rw [hzq] at lzq
  obtain ⟨lzq, lzr⟩ := lzq
  have k4 := fun u v w h1 h2 => iquo_any 100 u v z1 z2 w h1 h2 (by omega)
  have j4 := fun u v w h1 h2 => rquo_any 100 u v z1 z2 w h1 h2 (by omega)
  rw [hzq] at k4 j4
  obtain ⟨zg, eg, hzg⟩ : ∃ q e, gcdR z1 z2 = (q, e) := ⟨_, _, rfl⟩
  have lzg := gcdR_len la lb
  rw [hzg] at lzg
  have k5 := fun u v w h1 h2 => igcd_any 100 u v z1 z2 w h1 h2 (by omega)
  have j5 := fun u v w h1 h2 => rgcd_any 100 u v z1 z2 w h1 h2 (by omega)
  rw [hzg] at k5 j5
  obtain ⟨zh, eh, hzh⟩ : ∃ q e, shiftR z1 n = (q, e) := ⟨_, _, rfl⟩
  have lzh := shiftR_len n la (by omega)
  rw [hzh] at lzh
  have k6 := fun u w h => ishift_any 100 u z1 n w h (by omega) hn0 hn1
  have j6 := fun u w h => rshift_any 100 u z1 n w h (by omega) hn0 hn1
  rw [hzh] at k6 j6
  simp only at k1 k2 k3 k4 k5 k6 j1 j2 j3 j4 j5 j6 lzs lzd lzp lzq lzr lzg lzh
  have s1 := fun u v w h1 h2 => same_yes u v zs es w h1 h2 (by omega)
  have s2 := fun u v w h1 h2 => same_yes u v zd ed w h1 h2 (by omega)
  have s3 := fun u v w h1 h2 => same_yes u v zp ep w h1 h2 (by omega)
  have s4 := fun u v w h1 h2 => same_yes u v zq eq w h1 h2 (by omega)
  have s6 := fun u v w h1 h2 => same_yes u v zg eg w h1 h2 (by omega)
  have s7 := fun u v w h1 h2 => same_yes u v zh eh w h1 h2 (by omega)
  have s5 := fun u v w h1 h2 => same_ref u v zr w h1 h2 (by omega)
  have s8 := fun u v w h1 h2 => same_ref u v z1 w h1 h2 (by omega)
  have s9 := fun u v w h1 h2 => same_ref u v (-z1) w h1 h2 (by rw [Int.natAbs_neg]; omega)
  have s10 := fun u v w h1 h2 => same_ref u v n w h1 h2 (Nat.le_trans (lenZ_word hn0 hn1) (by decide))
  have t1 := fun u w h => isign_any 100 u z1 w h (by omega)
  have t2 := fun u w h => sign_any 100 u z1 w h (by omega)
  have t3 := fun u w h => ibits_any 100 u z1 w h (by omega)
  have t4 := fun u w h => rbits_any 100 u z1 w h (by omega)
  have t5 := fun u v w h1 h2 => icmp_any 100 u v z1 z2 w h1 h2 (by omega)
  have t6 := fun u v w h1 h2 => cmp_any 100 u v z1 z2 w h1 h2 (by omega)
  obtain ⟨sg, esg⟩ : ∃ q, q = sgn z1 := ⟨_, rfl⟩
  obtain ⟨bt, ebt⟩ : ∃ q : Int, q = (bitN z1.natAbs : Nat) := ⟨_, rfl⟩
  obtain ⟨cm, ecm⟩ : ∃ q, q = cmpI z1 z2 := ⟨_, rfl⟩
  rw [← esg] at t1 t2
  rw [← ebt] at t3 t4
  rw [← ecm] at t5 t6
  have K1 := Lib.hid k1
  have K2 := Lib.hid k2
  have K3 := Lib.hid k3
  have K4 := Lib.hid k4
  have K5 := Lib.hid k5
  have K6 := Lib.hid k6
  have J1 := Lib.hid j1
  have J2 := Lib.hid j2
  have J3 := Lib.hid j3
  have J4 := Lib.hid j4
  have J5 := Lib.hid j5
  have J6 := Lib.hid j6
  have S1 := Lib.hid s1
  have S2 := Lib.hid s2
  have S3 := Lib.hid s3
  have S4 := Lib.hid s4
  have S5 := Lib.hid s5
  have S6 := Lib.hid s6
  have S7 := Lib.hid s7
  have S8 := Lib.hid s8
  have S9 := Lib.hid s9
  have S10 := Lib.hid s10
  have T1 := Lib.hid t1
  have T2 := Lib.hid t2
  have T3 := Lib.hid t3
  have T4 := Lib.hid t4
  have T5 := Lib.hid t5
  have T6 := Lib.hid t6
  clear k1 k2 k3 k4 k5 k6 j1 j2 j3 j4 j5 j6 s1 s2 s3 s4 s5 s6 s7 s8 s9 s10 t1 t2 t3 t4 t5 t6 hzs hzd hzp hzq hzg hzh esg ebt ecm lzs lzd lzp lzq lzr lzg lzh
  have f1 := fun w => few_any p1 A1 n1 c1 w (by omega)
  have f2 := fun w => few_any p2 A2 n2 c2 w (by omega)
  rw [decide_eq_true h1] at f1
  rw [decide_eq_true h2] at f2
  have F1 := Lib.hid f1
  have F2 := Lib.hid f2
  have HA := Lib.hid (hA.upto (show 40 ≤ 100 by decide))
  have HB0 := Lib.hid (hB.upto (show 40 ≤ 100 by decide))
  have i3 : ¬ (4000 : Int) < n := by omega
  clear f1 f2 hA hB la lb
  go_enter Try.func9, Try.ntmps9; (try simp only [List.append_eq, List.cons_append, List.nil_append])
  go_wp2_with fail
  -- own blocks: w.heap.size:2, w.heap.size + 1:2
  (go_at_call 10; refine (awake01_any _).mono ?_; rintro e w1 ⟨rfl, hb_w1⟩; have hz_w1 := hb_w1.size; (try simp at hz_w1); (with_reducible apply cel2 (b := w.heap.size) hb_w1); (focus ((try simp) <;> omega)); (focus omega); (focus (go_simp; try exact rfl)); (focus (go_simp; try exact rfl)); (focus (intro o; go_simp)); intro cc cc fz hl; (with_reducible apply cel2 (b := w.heap.size + 1) hb_w1); (focus ((try simp) <;> omega)); (focus omega); (focus (go_simp; try exact rfl)); (focus (go_simp; try exact rfl)); (focus (intro o; go_simp)); intro cc cc fz hl)
  go_wp2_with fail
  (go_at_call 11; refine (F1.out _).mono ?_; rintro e w2 ⟨rfl, hb_w2⟩; have hz_w2 := hb_w2.size; (try simp at hz_w2); (with_reducible apply cel2 (b := w.heap.size) hb_w2); (focus ((try simp) <;> omega)); (focus omega); (focus (go_simp; try exact rfl)); (focus (go_simp; try exact rfl)); (focus (intro o; go_simp)); intro cc cc fz hl; (with_reducible apply cel2 (b := w.heap.size + 1) hb_w2); (focus ((try simp) <;> omega)); (focus omega); (focus (go_simp; try exact rfl)); (focus (go_simp; try exact rfl)); (focus (intro o; go_simp)); intro cc cc fz hl)
  go_wp2_with fail
  (go_at_call 11; refine (F2.out _).mono ?_; rintro e w3 ⟨rfl, hb_w3⟩; have hz_w3 := hb_w3.size; (try simp at hz_w3); (with_reducible apply cel2 (b := w.heap.size) hb_w3); (focus ((try simp) <;> omega)); (focus omega); (focus (go_simp; try exact rfl)); (focus (go_simp; try exact rfl)); (focus (intro o; go_simp)); intro cc cc fz hl; (with_reducible apply cel2 (b := w.heap.size + 1) hb_w3); (focus ((try simp) <;> omega)); (focus omega); (focus (go_simp; try exact rfl)); (focus (go_simp; try exact rfl)); (focus (intro o; go_simp)); intro cc cc fz hl)
  have HB := Lib.hid (show Below w.heap.size w w3 by ((with_reducible (repeat (first | exact bR _ _ | refine bS ?_ ?_ _ | refine bA ?_ ?_ _ | refine bD ?_ | refine bT ?_ (by assumption) ?_ | refine bO (by assumption) ?_ ?_))) <;> (first | omega | (simp; done) | (simp <;> omega))))
  replace HA := Lib.hid (HA.out.below HB.out)
  replace HB0 := Lib.hid (HB0.out.below HB.out)
  have hz3 : w.heap.size ≤ w3.heap.size := by omega
  clear hb_w1 hb_w2 hb_w3
  go_wp2_with fail
  (go_at_call 24; refine (K1.out _ _ _ (HA.out.below (Below.refl _ _)) (HB0.out.below (Below.refl _ _))).mono ?_; rintro e w4 ⟨hb_w4, A4, c4, rfl, hc4, hA4⟩; have hz_w4 := hb_w4.size; (try simp at hz_w4); (with_reducible apply cel2 (b := w.heap.size) hb_w4); (focus ((try simp) <;> omega)); (focus omega); (focus (go_simp; try exact rfl)); (focus (go_simp; try exact rfl)); (focus (intro o; go_simp)); intro cc cc fz hl; (with_reducible apply cel2 (b := w.heap.size + 1) hb_w4); (focus ((try simp) <;> omega)); (focus omega); (focus (go_simp; try exact rfl)); (focus (go_simp; try exact rfl)); (focus (intro o; go_simp)); intro cc cc fz hl)
  have HW4 := Lib.hid (show Below w3.heap.size w3 w4 by ((with_reducible (repeat (first | exact bR _ _ | refine bS ?_ ?_ _ | refine bA ?_ ?_ _ | refine bD ?_ | refine bT ?_ (by assumption) ?_ | refine bO (by assumption) ?_ ?_))) <;> (first | omega | (simp; done) | (simp <;> omega))))
  have HS1 := Lib.hid (show IsC w4 (.agg #[.bool (decide (zs < 0)), .slice A4 (canN zs.natAbs).length c4]) zs from ⟨A4, c4, rfl, hc4, hA4⟩)
  replace HA := Lib.hid (HA.out.below HW4.out)
  replace HB0 := Lib.hid (HB0.out.below HW4.out)
  have hz4 : w.heap.size ≤ w4.heap.size := by omega
  replace HB := Lib.hid (HB.out.trans (HW4.out.mono (by omega)))
  clear hb_w4 HW4 hc4 hA4
  go_wp2_with fail
  -- own blocks besides: w4.heap.size:2
  (go_at_call 19; refine (K2.out _ _ _ (HA.out.below ((Below.refl _ _).alloc (Nat.le_refl _) _)) (HB0.out.below ((Below.refl _ _).alloc (Nat.le_refl _) _))).mono ?_; rintro e w5 ⟨hb_w5, A5, c5, rfl, hc5, hA5⟩; have hz_w5 := hb_w5.size; (try simp at hz_w5); (with_reducible apply cel2 (b := w.heap.size) hb_w5); (focus ((try simp) <;> omega)); (focus omega); (focus (go_simp; try exact rfl)); (focus (go_simp; try exact rfl)); (focus (intro o; go_simp)); intro cc cc fz hl; (with_reducible apply cel2 (b := w.heap.size + 1) hb_w5); (focus ((try simp) <;> omega)); (focus omega); (focus (go_simp; try exact rfl)); (focus (go_simp; try exact rfl)); (focus (intro o; go_simp)); intro cc cc fz hl; (with_reducible apply cel2 (b := w4.heap.size) hb_w5); (focus ((try simp) <;> omega)); (focus omega); (focus (go_simp; try exact rfl)); (focus (go_simp; try exact rfl)); (focus (intro o; go_simp)); intro cc cc fz hl)
  have HW5 := Lib.hid (show Below w4.heap.size w4 w5 by ((with_reducible (repeat (first | exact bR _ _ | refine bS ?_ ?_ _ | refine bA ?_ ?_ _ | refine bD ?_ | refine bT ?_ (by assumption) ?_ | refine bO (by assumption) ?_ ?_))) <;> (first | omega | (simp; done) | (simp <;> omega))))
  have HD1 := Lib.hid (show IsC w5 (.agg #[.bool (decide (zd < 0)), .slice A5 (canN zd.natAbs).length c5]) zd from ⟨A5, c5, rfl, hc5, hA5⟩)
  replace HA := Lib.hid (HA.out.below HW5.out)
  replace HB0 := Lib.hid (HB0.out.below HW5.out)
  replace HS1 := Lib.hid (HS1.out.below HW5.out)
  have hz5 : w.heap.size ≤ w5.heap.size := by omega
  replace HB := Lib.hid (HB.out.trans (HW5.out.mono (by omega)))
  clear hb_w5 HW5 hc5 hA5
  go_wp2_with fail
  -- own blocks besides: w5.heap.size:2
  (go_at_call 23; refine (K3.out _ _ _ (HA.out.below ((Below.refl _ _).alloc (Nat.le_refl _) _)) (HB0.out.below ((Below.refl _ _).alloc (Nat.le_refl _) _))).mono ?_; rintro e w6 ⟨hb_w6, A6, c6, rfl, hc6, hA6⟩; have hz_w6 := hb_w6.size; (try simp at hz_w6); (with_reducible apply cel2 (b := w.heap.size) hb_w6); (focus ((try simp) <;> omega)); (focus omega); (focus (go_simp; try exact rfl)); (focus (go_simp; try exact rfl)); (focus (intro o; go_simp)); intro cc cc fz hl; (with_reducible apply cel2 (b := w.heap.size + 1) hb_w6); (focus ((try simp) <;> omega)); (focus omega); (focus (go_simp; try exact rfl)); (focus (go_simp; try exact rfl)); (focus (intro o; go_simp)); intro cc cc fz hl; (with_reducible apply cel2 (b := w4.heap.size) hb_w6); (focus ((try simp) <;> omega)); (focus omega); (focus (go_simp; try exact rfl)); (focus (go_simp; try exact rfl)); (focus (intro o; go_simp)); intro cc cc fz hl; (with_reducible apply cel2 (b := w5.heap.size) hb_w6); (focus ((try simp) <;> omega)); (focus omega); (focus (go_simp; try exact rfl)); (focus (go_simp; try exact rfl)); (focus (intro o; go_simp)); intro cc cc fz hl)
  have HW6 := Lib.hid (show Below w5.heap.size w5 w6 by ((with_reducible (repeat (first | exact bR _ _ | refine bS ?_ ?_ _ | refine bA ?_ ?_ _ | refine bD ?_ | refine bT ?_ (by assumption) ?_ | refine bO (by assumption) ?_ ?_))) <;> (first | omega | (simp; done) | (simp <;> omega))))
  have HP1 := Lib.hid (show IsC w6 (.agg #[.bool (decide (zp < 0)), .slice A6 (canN zp.natAbs).length c6]) zp from ⟨A6, c6, rfl, hc6, hA6⟩)
  replace HA := Lib.hid (HA.out.below HW6.out)
  replace HB0 := Lib.hid (HB0.out.below HW6.out)
  replace HS1 := Lib.hid (HS1.out.below HW6.out)
  replace HD1 := Lib.hid (HD1.out.below HW6.out)
  have hz6 : w.heap.size ≤ w6.heap.size := by omega
  replace HB := Lib.hid (HB.out.trans (HW6.out.mono (by omega)))
  clear hb_w6 HW6 hc6 hA6
  go_wp2_with fail
  -- own blocks besides: w6.heap.size:2
  (go_at_call 22; refine (K4.out _ _ _ (HA.out.below ((Below.refl _ _).alloc (Nat.le_refl _) _)) (HB0.out.below ((Below.refl _ _).alloc (Nat.le_refl _) _))).mono ?_; rintro e w7 ⟨hb_w7, A7, c7, A7q, c7q, rfl, hc7, hc7q, hA7, hA7q⟩; have hz_w7 := hb_w7.size; (try simp at hz_w7); (with_reducible apply cel2 (b := w.heap.size) hb_w7); (focus ((try simp) <;> omega)); (focus omega); (focus (go_simp; try exact rfl)); (focus (go_simp; try exact rfl)); (focus (intro o; go_simp)); intro cc cc fz hl; (with_reducible apply cel2 (b := w.heap.size + 1) hb_w7); (focus ((try simp) <;> omega)); (focus omega); (focus (go_simp; try exact rfl)); (focus (go_simp; try exact rfl)); (focus (intro o; go_simp)); intro cc cc fz hl; (with_reducible apply cel2 (b := w4.heap.size) hb_w7); (focus ((try simp) <;> omega)); (focus omega); (focus (go_simp; try exact rfl)); (focus (go_simp; try exact rfl)); (focus (intro o; go_simp)); intro cc cc fz hl; (with_reducible apply cel2 (b := w5.heap.size) hb_w7); (focus ((try simp) <;> omega)); (focus omega); (focus (go_simp; try exact rfl)); (focus (go_simp; try exact rfl)); (focus (intro o; go_simp)); intro cc cc fz hl; (with_reducible apply cel2 (b := w6.heap.size) hb_w7); (focus ((try simp) <;> omega)); (focus omega); (focus (go_simp; try exact rfl)); (focus (go_simp; try exact rfl)); (focus (intro o; go_simp)); intro cc cc fz hl)
  have HW7 := Lib.hid (show Below w6.heap.size w6 w7 by ((with_reducible (repeat (first | exact bR _ _ | refine bS ?_ ?_ _ | refine bA ?_ ?_ _ | refine bD ?_ | refine bT ?_ (by assumption) ?_ | refine bO (by assumption) ?_ ?_))) <;> (first | omega | (simp; done) | (simp <;> omega))))
  have HQ1 := Lib.hid (show IsC w7 (.agg #[.bool (decide (zq < 0)), .slice A7 (canN zq.natAbs).length c7]) zq from ⟨A7, c7, rfl, hc7, hA7⟩)
  have HR1 := Lib.hid (show IsC w7 (.agg #[.bool (decide (zr < 0)), .slice A7q (canN zr.natAbs).length c7q]) zr from ⟨A7q, c7q, rfl, hc7q, hA7q⟩)
  replace HA := Lib.hid (HA.out.below HW7.out)
  replace HB0 := Lib.hid (HB0.out.below HW7.out)
  replace HS1 := Lib.hid (HS1.out.below HW7.out)
  replace HD1 := Lib.hid (HD1.out.below HW7.out)
  replace HP1 := Lib.hid (HP1.out.below HW7.out)
  have hz7 : w.heap.size ≤ w7.heap.size := by omega
  replace HB := Lib.hid (HB.out.trans (HW7.out.mono (by omega)))
  clear hb_w7 HW7 hc7 hA7 hc7q hA7q
  go_wp2_with fail
  -- own blocks besides: w7.heap.size:2, w7.heap.size + 1:2
  (go_at_call 26; refine (K5.out _ _ _ (HA.out.below (((Below.refl _ _).alloc (Nat.le_refl _) _).alloc (by simp) _)) (HB0.out.below (((Below.refl _ _).alloc (Nat.le_refl _) _).alloc (by simp) _))).mono ?_; rintro e w8 ⟨hb_w8, A8, c8, rfl, hc8, hA8⟩; have hz_w8 := hb_w8.size; (try simp at hz_w8); (with_reducible apply cel2 (b := w.heap.size) hb_w8); (focus ((try simp) <;> omega)); (focus omega); (focus (go_simp; try exact rfl)); (focus (go_simp; try exact rfl)); (focus (intro o; go_simp)); intro cc cc fz hl; (with_reducible apply cel2 (b := w.heap.size + 1) hb_w8); (focus ((try simp) <;> omega)); (focus omega); (focus (go_simp; try exact rfl)); (focus (go_simp; try exact rfl)); (focus (intro o; go_simp)); intro cc cc fz hl; (with_reducible apply cel2 (b := w4.heap.size) hb_w8); (focus ((try simp) <;> omega)); (focus omega); (focus (go_simp; try exact rfl)); (focus (go_simp; try exact rfl)); (focus (intro o; go_simp)); intro cc cc fz hl; (with_reducible apply cel2 (b := w5.heap.size) hb_w8); (focus ((try simp) <;> omega)); (focus omega); (focus (go_simp; try exact rfl)); (focus (go_simp; try exact rfl)); (focus (intro o; go_simp)); intro cc cc fz hl; (with_reducible apply cel2 (b := w6.heap.size) hb_w8); (focus ((try simp) <;> omega)); (focus omega); (focus (go_simp; try exact rfl)); (focus (go_simp; try exact rfl)); (focus (intro o; go_simp)); intro cc cc fz hl; (with_reducible apply cel2 (b := w7.heap.size) hb_w8); (focus ((try simp) <;> omega)); (focus omega); (focus (go_simp; try exact rfl)); (focus (go_simp; try exact rfl)); (focus (intro o; go_simp)); intro cc cc fz hl; (with_reducible apply cel2 (b := w7.heap.size + 1) hb_w8); (focus ((try simp) <;> omega)); (focus omega); (focus (go_simp; try exact rfl)); (focus (go_simp; try exact rfl)); (focus (intro o; go_simp)); intro cc cc fz hl)
  have HW8 := Lib.hid (show Below w7.heap.size w7 w8 by ((with_reducible (repeat (first | exact bR _ _ | refine bS ?_ ?_ _ | refine bA ?_ ?_ _ | refine bD ?_ | refine bT ?_ (by assumption) ?_ | refine bO (by assumption) ?_ ?_))) <;> (first | omega | (simp; done) | (simp <;> omega))))
  have HG1 := Lib.hid (show IsC w8 (.agg #[.bool (decide (zg < 0)), .slice A8 (canN zg.natAbs).length c8]) zg from ⟨A8, c8, rfl, hc8, hA8⟩)
  replace HA := Lib.hid (HA.out.below HW8.out)
  replace HB0 := Lib.hid (HB0.out.below HW8.out)
  replace HS1 := Lib.hid (HS1.out.below HW8.out)
  replace HD1 := Lib.hid (HD1.out.below HW8.out)
  replace HP1 := Lib.hid (HP1.out.below HW8.out)
  replace HQ1 := Lib.hid (HQ1.out.below HW8.out)
  replace HR1 := Lib.hid (HR1.out.below HW8.out)
  have hz8 : w.heap.size ≤ w8.heap.size := by omega
  replace HB := Lib.hid (HB.out.trans (HW8.out.mono (by omega)))
  clear hb_w8 HW8 hc8 hA8
  go_wp2_with fail
  -- own blocks besides: w8.heap.size:2
  (go_at_call 18; refine (K6.out _ _ (HA.out.below ((Below.refl _ _).alloc (Nat.le_refl _) _))).mono ?_; rintro e w9 ⟨hb_w9, A9, c9, rfl, hc9, hA9⟩; have hz_w9 := hb_w9.size; (try simp at hz_w9); (with_reducible apply cel2 (b := w.heap.size) hb_w9); (focus ((try simp) <;> omega)); (focus omega); (focus (go_simp; try exact rfl)); (focus (go_simp; try exact rfl)); (focus (intro o; go_simp)); intro cc cc fz hl; (with_reducible apply cel2 (b := w.heap.size + 1) hb_w9); (focus ((try simp) <;> omega)); (focus omega); (focus (go_simp; try exact rfl)); (focus (go_simp; try exact rfl)); (focus (intro o; go_simp)); intro cc cc fz hl; (with_reducible apply cel2 (b := w4.heap.size) hb_w9); (focus ((try simp) <;> omega)); (focus omega); (focus (go_simp; try exact rfl)); (focus (go_simp; try exact rfl)); (focus (intro o; go_simp)); intro cc cc fz hl; (with_reducible apply cel2 (b := w5.heap.size) hb_w9); (focus ((try simp) <;> omega)); (focus omega); (focus (go_simp; try exact rfl)); (focus (go_simp; try exact rfl)); (focus (intro o; go_simp)); intro cc cc fz hl; (with_reducible apply cel2 (b := w6.heap.size) hb_w9); (focus ((try simp) <;> omega)); (focus omega); (focus (go_simp; try exact rfl)); (focus (go_simp; try exact rfl)); (focus (intro o; go_simp)); intro cc cc fz hl; (with_reducible apply cel2 (b := w7.heap.size) hb_w9); (focus ((try simp) <;> omega)); (focus omega); (focus (go_simp; try exact rfl)); (focus (go_simp; try exact rfl)); (focus (intro o; go_simp)); intro cc cc fz hl; (with_reducible apply cel2 (b := w7.heap.size + 1) hb_w9); (focus ((try simp) <;> omega)); (focus omega); (focus (go_simp; try exact rfl)); (focus (go_simp; try exact rfl)); (focus (intro o; go_simp)); intro cc cc fz hl; (with_reducible apply cel2 (b := w8.heap.size) hb_w9); (focus ((try simp) <;> omega)); (focus omega); (focus (go_simp; try exact rfl)); (focus (go_simp; try exact rfl)); (focus (intro o; go_simp)); intro cc cc fz hl)
  have HW9 := Lib.hid (show Below w8.heap.size w8 w9 by ((with_reducible (repeat (first | exact bR _ _ | refine bS ?_ ?_ _ | refine bA ?_ ?_ _ | refine bD ?_ | refine bT ?_ (by assumption) ?_ | refine bO (by assumption) ?_ ?_))) <;> (first | omega | (simp; done) | (simp <;> omega))))
  have HH1 := Lib.hid (show IsC w9 (.agg #[.bool (decide (zh < 0)), .slice A9 (canN zh.natAbs).length c9]) zh from ⟨A9, c9, rfl, hc9, hA9⟩)
  replace HA := Lib.hid (HA.out.below HW9.out)
  replace HB0 := Lib.hid (HB0.out.below HW9.out)
  replace HS1 := Lib.hid (HS1.out.below HW9.out)
  replace HD1 := Lib.hid (HD1.out.below HW9.out)
  replace HP1 := Lib.hid (HP1.out.below HW9.out)
  replace HQ1 := Lib.hid (HQ1.out.below HW9.out)
  replace HR1 := Lib.hid (HR1.out.below HW9.out)
  replace HG1 := Lib.hid (HG1.out.below HW9.out)
  have hz9 : w.heap.size ≤ w9.heap.size := by omega
  replace HB := Lib.hid (HB.out.trans (HW9.out.mono (by omega)))
  clear hb_w9 HW9 hc9 hA9
  go_wp2_with fail
  -- own blocks besides: w9.heap.size:2
  (go_at_call 33; refine (J1.out _ _ _ (HA.out.below ((Below.refl _ _).alloc (Nat.le_refl _) _)) (HB0.out.below ((Below.refl _ _).alloc (Nat.le_refl _) _))).mono ?_; rintro e w10 ⟨hb_w10, A10, c10, rfl, hc10, hA10⟩; have hz_w10 := hb_w10.size; (try simp at hz_w10); (with_reducible apply cel2 (b := w.heap.size) hb_w10); (focus ((try simp) <;> omega)); (focus omega); (focus (go_simp; try exact rfl)); (focus (go_simp; try exact rfl)); (focus (intro o; go_simp)); intro cc cc fz hl; (with_reducible apply cel2 (b := w.heap.size + 1) hb_w10); (focus ((try simp) <;> omega)); (focus omega); (focus (go_simp; try exact rfl)); (focus (go_simp; try exact rfl)); (focus (intro o; go_simp)); intro cc cc fz hl; (with_reducible apply cel2 (b := w4.heap.size) hb_w10); (focus ((try simp) <;> omega)); (focus omega); (focus (go_simp; try exact rfl)); (focus (go_simp; try exact rfl)); (focus (intro o; go_simp)); intro cc cc fz hl; (with_reducible apply cel2 (b := w5.heap.size) hb_w10); (focus ((try simp) <;> omega)); (focus omega); (focus (go_simp; try exact rfl)); (focus (go_simp; try exact rfl)); (focus (intro o; go_simp)); intro cc cc fz hl; (with_reducible apply cel2 (b := w6.heap.size) hb_w10); (focus ((try simp) <;> omega)); (focus omega); (focus (go_simp; try exact rfl)); (focus (go_simp; try exact rfl)); (focus (intro o; go_simp)); intro cc cc fz hl; (with_reducible apply cel2 (b := w7.heap.size) hb_w10); (focus ((try simp) <;> omega)); (focus omega); (focus (go_simp; try exact rfl)); (focus (go_simp; try exact rfl)); (focus (intro o; go_simp)); intro cc cc fz hl; (with_reducible apply cel2 (b := w7.heap.size + 1) hb_w10); (focus ((try simp) <;> omega)); (focus omega); (focus (go_simp; try exact rfl)); (focus (go_simp; try exact rfl)); (focus (intro o; go_simp)); intro cc cc fz hl; (with_reducible apply cel2 (b := w8.heap.size) hb_w10); (focus ((try simp) <;> omega)); (focus omega); (focus (go_simp; try exact rfl)); (focus (go_simp; try exact rfl)); (focus (intro o; go_simp)); intro cc cc fz hl; (with_reducible apply cel2 (b := w9.heap.size) hb_w10); (focus ((try simp) <;> omega)); (focus omega); (focus (go_simp; try exact rfl)); (focus (go_simp; try exact rfl)); (focus (intro o; go_simp)); intro cc cc fz hl)
  have HW10 := Lib.hid (show Below w9.heap.size w9 w10 by ((with_reducible (repeat (first | exact bR _ _ | refine bS ?_ ?_ _ | refine bA ?_ ?_ _ | refine bD ?_ | refine bT ?_ (by assumption) ?_ | refine bO (by assumption) ?_ ?_))) <;> (first | omega | (simp; done) | (simp <;> omega))))
  have HS2 := Lib.hid (show IsC w10 (.agg #[.bool (decide (zs < 0)), .slice A10 (canN zs.natAbs).length c10]) zs from ⟨A10, c10, rfl, hc10, hA10⟩)
  replace HA := Lib.hid (HA.out.below HW10.out)
  replace HB0 := Lib.hid (HB0.out.below HW10.out)
  replace HS1 := Lib.hid (HS1.out.below HW10.out)
  replace HD1 := Lib.hid (HD1.out.below HW10.out)
  replace HP1 := Lib.hid (HP1.out.below HW10.out)
  replace HQ1 := Lib.hid (HQ1.out.below HW10.out)
  replace HR1 := Lib.hid (HR1.out.below HW10.out)
  replace HG1 := Lib.hid (HG1.out.below HW10.out)
  replace HH1 := Lib.hid (HH1.out.below HW10.out)
  have hz10 : w.heap.size ≤ w10.heap.size := by omega
  replace HB := Lib.hid (HB.out.trans (HW10.out.mono (by omega)))
  clear hb_w10 HW10 hc10 hA10
  go_wp2_with fail
  -- own blocks besides: w10.heap.size:2
  (go_at_call 34; refine (J2.out _ _ _ (HA.out.below ((Below.refl _ _).alloc (Nat.le_refl _) _)) (HB0.out.below ((Below.refl _ _).alloc (Nat.le_refl _) _))).mono ?_; rintro e w11 ⟨hb_w11, A11, c11, rfl, hc11, hA11⟩; have hz_w11 := hb_w11.size; (try simp at hz_w11); (with_reducible apply cel2 (b := w.heap.size) hb_w11); (focus ((try simp) <;> omega)); (focus omega); (focus (go_simp; try exact rfl)); (focus (go_simp; try exact rfl)); (focus (intro o; go_simp)); intro cc cc fz hl; (with_reducible apply cel2 (b := w.heap.size + 1) hb_w11); (focus ((try simp) <;> omega)); (focus omega); (focus (go_simp; try exact rfl)); (focus (go_simp; try exact rfl)); (focus (intro o; go_simp)); intro cc cc fz hl; (with_reducible apply cel2 (b := w4.heap.size) hb_w11); (focus ((try simp) <;> omega)); (focus omega); (focus (go_simp; try exact rfl)); (focus (go_simp; try exact rfl)); (focus (intro o; go_simp)); intro cc cc fz hl; (with_reducible apply cel2 (b := w5.heap.size) hb_w11); (focus ((try simp) <;> omega)); (focus omega); (focus (go_simp; try exact rfl)); (focus (go_simp; try exact rfl)); (focus (intro o; go_simp)); intro cc cc fz hl; (with_reducible apply cel2 (b := w6.heap.size) hb_w11); (focus ((try simp) <;> omega)); (focus omega); (focus (go_simp; try exact rfl)); (focus (go_simp; try exact rfl)); (focus (intro o; go_simp)); intro cc cc fz hl; (with_reducible apply cel2 (b := w7.heap.size) hb_w11); (focus ((try simp) <;> omega)); (focus omega); (focus (go_simp; try exact rfl)); (focus (go_simp; try exact rfl)); (focus (intro o; go_simp)); intro cc cc fz hl; (with_reducible apply cel2 (b := w7.heap.size + 1) hb_w11); (focus ((try simp) <;> omega)); (focus omega); (focus (go_simp; try exact rfl)); (focus (go_simp; try exact rfl)); (focus (intro o; go_simp)); intro cc cc fz hl; (with_reducible apply cel2 (b := w8.heap.size) hb_w11); (focus ((try simp) <;> omega)); (focus omega); (focus (go_simp; try exact rfl)); (focus (go_simp; try exact rfl)); (focus (intro o; go_simp)); intro cc cc fz hl; (with_reducible apply cel2 (b := w9.heap.size) hb_w11); (focus ((try simp) <;> omega)); (focus omega); (focus (go_simp; try exact rfl)); (focus (go_simp; try exact rfl)); (focus (intro o; go_simp)); intro cc cc fz hl; (with_reducible apply cel2 (b := w10.heap.size) hb_w11); (focus ((try simp) <;> omega)); (focus omega); (focus (go_simp; try exact rfl)); (focus (go_simp; try exact rfl)); (focus (intro o; go_simp)); intro cc cc fz hl)
  have HW11 := Lib.hid (show Below w10.heap.size w10 w11 by ((with_reducible (repeat (first | exact bR _ _ | refine bS ?_ ?_ _ | refine bA ?_ ?_ _ | refine bD ?_ | refine bT ?_ (by assumption) ?_ | refine bO (by assumption) ?_ ?_))) <;> (first | omega | (simp; done) | (simp <;> omega))))
  have HD2 := Lib.hid (show IsC w11 (.agg #[.bool (decide (zd < 0)), .slice A11 (canN zd.natAbs).length c11]) zd from ⟨A11, c11, rfl, hc11, hA11⟩)
  replace HA := Lib.hid (HA.out.below HW11.out)
  replace HB0 := Lib.hid (HB0.out.below HW11.out)
  replace HS1 := Lib.hid (HS1.out.below HW11.out)
  replace HD1 := Lib.hid (HD1.out.below HW11.out)
  replace HP1 := Lib.hid (HP1.out.below HW11.out)
  replace HQ1 := Lib.hid (HQ1.out.below HW11.out)
  replace HR1 := Lib.hid (HR1.out.below HW11.out)
  replace HG1 := Lib.hid (HG1.out.below HW11.out)
  replace HH1 := Lib.hid (HH1.out.below HW11.out)
  replace HS2 := Lib.hid (HS2.out.below HW11.out)
  have hz11 : w.heap.size ≤ w11.heap.size := by omega
  replace HB := Lib.hid (HB.out.trans (HW11.out.mono (by omega)))
  clear hb_w11 HW11 hc11 hA11
  go_wp2_with fail
  -- own blocks besides: w11.heap.size:2
  (go_at_call 35; refine (J3.out _ _ _ (HA.out.below ((Below.refl _ _).alloc (Nat.le_refl _) _)) (HB0.out.below ((Below.refl _ _).alloc (Nat.le_refl _) _))).mono ?_; rintro e w12 ⟨hb_w12, A12, c12, rfl, hc12, hA12⟩; have hz_w12 := hb_w12.size; (try simp at hz_w12); (with_reducible apply cel2 (b := w.heap.size) hb_w12); (focus ((try simp) <;> omega)); (focus omega); (focus (go_simp; try exact rfl)); (focus (go_simp; try exact rfl)); (focus (intro o; go_simp)); intro cc cc fz hl; (with_reducible apply cel2 (b := w.heap.size + 1) hb_w12); (focus ((try simp) <;> omega)); (focus omega); (focus (go_simp; try exact rfl)); (focus (go_simp; try exact rfl)); (focus (intro o; go_simp)); intro cc cc fz hl; (with_reducible apply cel2 (b := w4.heap.size) hb_w12); (focus ((try simp) <;> omega)); (focus omega); (focus (go_simp; try exact rfl)); (focus (go_simp; try exact rfl)); (focus (intro o; go_simp)); intro cc cc fz hl; (with_reducible apply cel2 (b := w5.heap.size) hb_w12); (focus ((try simp) <;> omega)); (focus omega); (focus (go_simp; try exact rfl)); (focus (go_simp; try exact rfl)); (focus (intro o; go_simp)); intro cc cc fz hl; (with_reducible apply cel2 (b := w6.heap.size) hb_w12); (focus ((try simp) <;> omega)); (focus omega); (focus (go_simp; try exact rfl)); (focus (go_simp; try exact rfl)); (focus (intro o; go_simp)); intro cc cc fz hl; (with_reducible apply cel2 (b := w7.heap.size) hb_w12); (focus ((try simp) <;> omega)); (focus omega); (focus (go_simp; try exact rfl)); (focus (go_simp; try exact rfl)); (focus (intro o; go_simp)); intro cc cc fz hl; (with_reducible apply cel2 (b := w7.heap.size + 1) hb_w12); (focus ((try simp) <;> omega)); (focus omega); (focus (go_simp; try exact rfl)); (focus (go_simp; try exact rfl)); (focus (intro o; go_simp)); intro cc cc fz hl; (with_reducible apply cel2 (b := w8.heap.size) hb_w12); (focus ((try simp) <;> omega)); (focus omega); (focus (go_simp; try exact rfl)); (focus (go_simp; try exact rfl)); (focus (intro o; go_simp)); intro cc cc fz hl; (with_reducible apply cel2 (b := w9.heap.size) hb_w12); (focus ((try simp) <;> omega)); (focus omega); (focus (go_simp; try exact rfl)); (focus (go_simp; try exact rfl)); (focus (intro o; go_simp)); intro cc cc fz hl; (with_reducible apply cel2 (b := w10.heap.size) hb_w12); (focus ((try simp) <;> omega)); (focus omega); (focus (go_simp; try exact rfl)); (focus (go_simp; try exact rfl)); (focus (intro o; go_simp)); intro cc cc fz hl; (with_reducible apply cel2 (b := w11.heap.size) hb_w12); (focus ((try simp) <;> omega)); (focus omega); (focus (go_simp; try exact rfl)); (focus (go_simp; try exact rfl)); (focus (intro o; go_simp)); intro cc cc fz hl)
  have HW12 := Lib.hid (show Below w11.heap.size w11 w12 by ((with_reducible (repeat (first | exact bR _ _ | refine bS ?_ ?_ _ | refine bA ?_ ?_ _ | refine bD ?_ | refine bT ?_ (by assumption) ?_ | refine bO (by assumption) ?_ ?_))) <;> (first | omega | (simp; done) | (simp <;> omega))))
  have HP2 := Lib.hid (show IsC w12 (.agg #[.bool (decide (zp < 0)), .slice A12 (canN zp.natAbs).length c12]) zp from ⟨A12, c12, rfl, hc12, hA12⟩)
  replace HA := Lib.hid (HA.out.below HW12.out)
  replace HB0 := Lib.hid (HB0.out.below HW12.out)
  replace HS1 := Lib.hid (HS1.out.below HW12.out)
  replace HD1 := Lib.hid (HD1.out.below HW12.out)
  replace HP1 := Lib.hid (HP1.out.below HW12.out)
  replace HQ1 := Lib.hid (HQ1.out.below HW12.out)
  replace HR1 := Lib.hid (HR1.out.below HW12.out)
  replace HG1 := Lib.hid (HG1.out.below HW12.out)
  replace HH1 := Lib.hid (HH1.out.below HW12.out)
  replace HS2 := Lib.hid (HS2.out.below HW12.out)
  replace HD2 := Lib.hid (HD2.out.below HW12.out)
  have hz12 : w.heap.size ≤ w12.heap.size := by omega
  replace HB := Lib.hid (HB.out.trans (HW12.out.mono (by omega)))
  clear hb_w12 HW12 hc12 hA12
  go_wp2_with fail
  -- own blocks besides: w12.heap.size:2
  (go_at_call 36; refine (J4.out _ _ _ (HA.out.below ((Below.refl _ _).alloc (Nat.le_refl _) _)) (HB0.out.below ((Below.refl _ _).alloc (Nat.le_refl _) _))).mono ?_; rintro e w13 ⟨hb_w13, A13, c13, A13q, c13q, rfl, hc13, hc13q, hA13, hA13q⟩; have hz_w13 := hb_w13.size; (try simp at hz_w13); (with_reducible apply cel2 (b := w.heap.size) hb_w13); (focus ((try simp) <;> omega)); (focus omega); (focus (go_simp; try exact rfl)); (focus (go_simp; try exact rfl)); (focus (intro o; go_simp)); intro cc cc fz hl; (with_reducible apply cel2 (b := w.heap.size + 1) hb_w13); (focus ((try simp) <;> omega)); (focus omega); (focus (go_simp; try exact rfl)); (focus (go_simp; try exact rfl)); (focus (intro o; go_simp)); intro cc cc fz hl; (with_reducible apply cel2 (b := w4.heap.size) hb_w13); (focus ((try simp) <;> omega)); (focus omega); (focus (go_simp; try exact rfl)); (focus (go_simp; try exact rfl)); (focus (intro o; go_simp)); intro cc cc fz hl; (with_reducible apply cel2 (b := w5.heap.size) hb_w13); (focus ((try simp) <;> omega)); (focus omega); (focus (go_simp; try exact rfl)); (focus (go_simp; try exact rfl)); (focus (intro o; go_simp)); intro cc cc fz hl; (with_reducible apply cel2 (b := w6.heap.size) hb_w13); (focus ((try simp) <;> omega)); (focus omega); (focus (go_simp; try exact rfl)); (focus (go_simp; try exact rfl)); (focus (intro o; go_simp)); intro cc cc fz hl; (with_reducible apply cel2 (b := w7.heap.size) hb_w13); (focus ((try simp) <;> omega)); (focus omega); (focus (go_simp; try exact rfl)); (focus (go_simp; try exact rfl)); (focus (intro o; go_simp)); intro cc cc fz hl; (with_reducible apply cel2 (b := w7.heap.size + 1) hb_w13); (focus ((try simp) <;> omega)); (focus omega); (focus (go_simp; try exact rfl)); (focus (go_simp; try exact rfl)); (focus (intro o; go_simp)); intro cc cc fz hl; (with_reducible apply cel2 (b := w8.heap.size) hb_w13); (focus ((try simp) <;> omega)); (focus omega); (focus (go_simp; try exact rfl)); (focus (go_simp; try exact rfl)); (focus (intro o; go_simp)); intro cc cc fz hl; (with_reducible apply cel2 (b := w9.heap.size) hb_w13); (focus ((try simp) <;> omega)); (focus omega); (focus (go_simp; try exact rfl)); (focus (go_simp; try exact rfl)); (focus (intro o; go_simp)); intro cc cc fz hl; (with_reducible apply cel2 (b := w10.heap.size) hb_w13); (focus ((try simp) <;> omega)); (focus omega); (focus (go_simp; try exact rfl)); (focus (go_simp; try exact rfl)); (focus (intro o; go_simp)); intro cc cc fz hl; (with_reducible apply cel2 (b := w11.heap.size) hb_w13); (focus ((try simp) <;> omega)); (focus omega); (focus (go_simp; try exact rfl)); (focus (go_simp; try exact rfl)); (focus (intro o; go_simp)); intro cc cc fz hl; (with_reducible apply cel2 (b := w12.heap.size) hb_w13); (focus ((try simp) <;> omega)); (focus omega); (focus (go_simp; try exact rfl)); (focus (go_simp; try exact rfl)); (focus (intro o; go_simp)); intro cc cc fz hl)
  have HW13 := Lib.hid (show Below w12.heap.size w12 w13 by ((with_reducible (repeat (first | exact bR _ _ | refine bS ?_ ?_ _ | refine bA ?_ ?_ _ | refine bD ?_ | refine bT ?_ (by assumption) ?_ | refine bO (by assumption) ?_ ?_))) <;> (first | omega | (simp; done) | (simp <;> omega))))
  have HQ2 := Lib.hid (show IsC w13 (.agg #[.bool (decide (zq < 0)), .slice A13 (canN zq.natAbs).length c13]) zq from ⟨A13, c13, rfl, hc13, hA13⟩)
  have HR2 := Lib.hid (show IsC w13 (.agg #[.bool (decide (zr < 0)), .slice A13q (canN zr.natAbs).length c13q]) zr from ⟨A13q, c13q, rfl, hc13q, hA13q⟩)
  replace HA := Lib.hid (HA.out.below HW13.out)
  replace HB0 := Lib.hid (HB0.out.below HW13.out)
  replace HS1 := Lib.hid (HS1.out.below HW13.out)
  replace HD1 := Lib.hid (HD1.out.below HW13.out)
  replace HP1 := Lib.hid (HP1.out.below HW13.out)
  replace HQ1 := Lib.hid (HQ1.out.below HW13.out)
  replace HR1 := Lib.hid (HR1.out.below HW13.out)
  replace HG1 := Lib.hid (HG1.out.below HW13.out)
  replace HH1 := Lib.hid (HH1.out.below HW13.out)
  replace HS2 := Lib.hid (HS2.out.below HW13.out)
  replace HD2 := Lib.hid (HD2.out.below HW13.out)
  replace HP2 := Lib.hid (HP2.out.below HW13.out)
  have hz13 : w.heap.size ≤ w13.heap.size := by omega
  replace HB := Lib.hid (HB.out.trans (HW13.out.mono (by omega)))
  clear hb_w13 HW13 hc13 hA13 hc13q hA13q
  go_wp2_with fail
  -- own blocks besides: w13.heap.size:2, w13.heap.size + 1:2
  (go_at_call 37; refine (J5.out _ _ _ (HA.out.below (((Below.refl _ _).alloc (Nat.le_refl _) _).alloc (by simp) _)) (HB0.out.below (((Below.refl _ _).alloc (Nat.le_refl _) _).alloc (by simp) _))).mono ?_; rintro e w14 ⟨hb_w14, A14, c14, rfl, hc14, hA14⟩; have hz_w14 := hb_w14.size; (try simp at hz_w14); (with_reducible apply cel2 (b := w.heap.size) hb_w14); (focus ((try simp) <;> omega)); (focus omega); (focus (go_simp; try exact rfl)); (focus (go_simp; try exact rfl)); (focus (intro o; go_simp)); intro cc cc fz hl; (with_reducible apply cel2 (b := w.heap.size + 1) hb_w14); (focus ((try simp) <;> omega)); (focus omega); (focus (go_simp; try exact rfl)); (focus (go_simp; try exact rfl)); (focus (intro o; go_simp)); intro cc cc fz hl; (with_reducible apply cel2 (b := w4.heap.size) hb_w14); (focus ((try simp) <;> omega)); (focus omega); (focus (go_simp; try exact rfl)); (focus (go_simp; try exact rfl)); (focus (intro o; go_simp)); intro cc cc fz hl; (with_reducible apply cel2 (b := w5.heap.size) hb_w14); (focus ((try simp) <;> omega)); (focus omega); (focus (go_simp; try exact rfl)); (focus (go_simp; try exact rfl)); (focus (intro o; go_simp)); intro cc cc fz hl; (with_reducible apply cel2 (b := w6.heap.size) hb_w14); (focus ((try simp) <;> omega)); (focus omega); (focus (go_simp; try exact rfl)); (focus (go_simp; try exact rfl)); (focus (intro o; go_simp)); intro cc cc fz hl; (with_reducible apply cel2 (b := w7.heap.size) hb_w14); (focus ((try simp) <;> omega)); (focus omega); (focus (go_simp; try exact rfl)); (focus (go_simp; try exact rfl)); (focus (intro o; go_simp)); intro cc cc fz hl; (with_reducible apply cel2 (b := w7.heap.size + 1) hb_w14); (focus ((try simp) <;> omega)); (focus omega); (focus (go_simp; try exact rfl)); (focus (go_simp; try exact rfl)); (focus (intro o; go_simp)); intro cc cc fz hl; (with_reducible apply cel2 (b := w8.heap.size) hb_w14); (focus ((try simp) <;> omega)); (focus omega); (focus (go_simp; try exact rfl)); (focus (go_simp; try exact rfl)); (focus (intro o; go_simp)); intro cc cc fz hl; (with_reducible apply cel2 (b := w9.heap.size) hb_w14); (focus ((try simp) <;> omega)); (focus omega); (focus (go_simp; try exact rfl)); (focus (go_simp; try exact rfl)); (focus (intro o; go_simp)); intro cc cc fz hl; (with_reducible apply cel2 (b := w10.heap.size) hb_w14); (focus ((try simp) <;> omega)); (focus omega); (focus (go_simp; try exact rfl)); (focus (go_simp; try exact rfl)); (focus (intro o; go_simp)); intro cc cc fz hl; (with_reducible apply cel2 (b := w11.heap.size) hb_w14); (focus ((try simp) <;> omega)); (focus omega); (focus (go_simp; try exact rfl)); (focus (go_simp; try exact rfl)); (focus (intro o; go_simp)); intro cc cc fz hl; (with_reducible apply cel2 (b := w12.heap.size) hb_w14); (focus ((try simp) <;> omega)); (focus omega); (focus (go_simp; try exact rfl)); (focus (go_simp; try exact rfl)); (focus (intro o; go_simp)); intro cc cc fz hl; (with_reducible apply cel2 (b := w13.heap.size) hb_w14); (focus ((try simp) <;> omega)); (focus omega); (focus (go_simp; try exact rfl)); (focus (go_simp; try exact rfl)); (focus (intro o; go_simp)); intro cc cc fz hl; (with_reducible apply cel2 (b := w13.heap.size + 1) hb_w14); (focus ((try simp) <;> omega)); (focus omega); (focus (go_simp; try exact rfl)); (focus (go_simp; try exact rfl)); (focus (intro o; go_simp)); intro cc cc fz hl)
  have HW14 := Lib.hid (show Below w13.heap.size w13 w14 by ((with_reducible (repeat (first | exact bR _ _ | refine bS ?_ ?_ _ | refine bA ?_ ?_ _ | refine bD ?_ | refine bT ?_ (by assumption) ?_ | refine bO (by assumption) ?_ ?_))) <;> (first | omega | (simp; done) | (simp <;> omega))))
  have HG2 := Lib.hid (show IsC w14 (.agg #[.bool (decide (zg < 0)), .slice A14 (canN zg.natAbs).length c14]) zg from ⟨A14, c14, rfl, hc14, hA14⟩)
  replace HA := Lib.hid (HA.out.below HW14.out)
  replace HB0 := Lib.hid (HB0.out.below HW14.out)
  replace HS1 := Lib.hid (HS1.out.below HW14.out)
  replace HD1 := Lib.hid (HD1.out.below HW14.out)
  replace HP1 := Lib.hid (HP1.out.below HW14.out)
  replace HQ1 := Lib.hid (HQ1.out.below HW14.out)
  replace HR1 := Lib.hid (HR1.out.below HW14.out)
  replace HG1 := Lib.hid (HG1.out.below HW14.out)
  replace HH1 := Lib.hid (HH1.out.below HW14.out)
  replace HS2 := Lib.hid (HS2.out.below HW14.out)
  replace HD2 := Lib.hid (HD2.out.below HW14.out)
  replace HP2 := Lib.hid (HP2.out.below HW14.out)
  replace HQ2 := Lib.hid (HQ2.out.below HW14.out)
  replace HR2 := Lib.hid (HR2.out.below HW14.out)
  have hz14 : w.heap.size ≤ w14.heap.size := by omega
  replace HB := Lib.hid (HB.out.trans (HW14.out.mono (by omega)))
  clear hb_w14 HW14 hc14 hA14
  go_wp2_with fail
  -- own blocks besides: w14.heap.size:2
  (go_at_call 38; refine (J6.out _ _ (HA.out.below ((Below.refl _ _).alloc (Nat.le_refl _) _))).mono ?_; rintro e w15 ⟨hb_w15, A15, c15, rfl, hc15, hA15⟩; have hz_w15 := hb_w15.size; (try simp at hz_w15); (with_reducible apply cel2 (b := w.heap.size) hb_w15); (focus ((try simp) <;> omega)); (focus omega); (focus (go_simp; try exact rfl)); (focus (go_simp; try exact rfl)); (focus (intro o; go_simp)); intro cc cc fz hl; (with_reducible apply cel2 (b := w.heap.size + 1) hb_w15); (focus ((try simp) <;> omega)); (focus omega); (focus (go_simp; try exact rfl)); (focus (go_simp; try exact rfl)); (focus (intro o; go_simp)); intro cc cc fz hl; (with_reducible apply cel2 (b := w4.heap.size) hb_w15); (focus ((try simp) <;> omega)); (focus omega); (focus (go_simp; try exact rfl)); (focus (go_simp; try exact rfl)); (focus (intro o; go_simp)); intro cc cc fz hl; (with_reducible apply cel2 (b := w5.heap.size) hb_w15); (focus ((try simp) <;> omega)); (focus omega); (focus (go_simp; try exact rfl)); (focus (go_simp; try exact rfl)); (focus (intro o; go_simp)); intro cc cc fz hl; (with_reducible apply cel2 (b := w6.heap.size) hb_w15); (focus ((try simp) <;> omega)); (focus omega); (focus (go_simp; try exact rfl)); (focus (go_simp; try exact rfl)); (focus (intro o; go_simp)); intro cc cc fz hl; (with_reducible apply cel2 (b := w7.heap.size) hb_w15); (focus ((try simp) <;> omega)); (focus omega); (focus (go_simp; try exact rfl)); (focus (go_simp; try exact rfl)); (focus (intro o; go_simp)); intro cc cc fz hl; (with_reducible apply cel2 (b := w7.heap.size + 1) hb_w15); (focus ((try simp) <;> omega)); (focus omega); (focus (go_simp; try exact rfl)); (focus (go_simp; try exact rfl)); (focus (intro o; go_simp)); intro cc cc fz hl; (with_reducible apply cel2 (b := w8.heap.size) hb_w15); (focus ((try simp) <;> omega)); (focus omega); (focus (go_simp; try exact rfl)); (focus (go_simp; try exact rfl)); (focus (intro o; go_simp)); intro cc cc fz hl; (with_reducible apply cel2 (b := w9.heap.size) hb_w15); (focus ((try simp) <;> omega)); (focus omega); (focus (go_simp; try exact rfl)); (focus (go_simp; try exact rfl)); (focus (intro o; go_simp)); intro cc cc fz hl; (with_reducible apply cel2 (b := w10.heap.size) hb_w15); (focus ((try simp) <;> omega)); (focus omega); (focus (go_simp; try exact rfl)); (focus (go_simp; try exact rfl)); (focus (intro o; go_simp)); intro cc cc fz hl; (with_reducible apply cel2 (b := w11.heap.size) hb_w15); (focus ((try simp) <;> omega)); (focus omega); (focus (go_simp; try exact rfl)); (focus (go_simp; try exact rfl)); (focus (intro o; go_simp)); intro cc cc fz hl; (with_reducible apply cel2 (b := w12.heap.size) hb_w15); (focus ((try simp) <;> omega)); (focus omega); (focus (go_simp; try exact rfl)); (focus (go_simp; try exact rfl)); (focus (intro o; go_simp)); intro cc cc fz hl; (with_reducible apply cel2 (b := w13.heap.size) hb_w15); (focus ((try simp) <;> omega)); (focus omega); (focus (go_simp; try exact rfl)); (focus (go_simp; try exact rfl)); (focus (intro o; go_simp)); intro cc cc fz hl; (with_reducible apply cel2 (b := w13.heap.size + 1) hb_w15); (focus ((try simp) <;> omega)); (focus omega); (focus (go_simp; try exact rfl)); (focus (go_simp; try exact rfl)); (focus (intro o; go_simp)); intro cc cc fz hl; (with_reducible apply cel2 (b := w14.heap.size) hb_w15); (focus ((try simp) <;> omega)); (focus omega); (focus (go_simp; try exact rfl)); (focus (go_simp; try exact rfl)); (focus (intro o; go_simp)); intro cc cc fz hl)
  have HW15 := Lib.hid (show Below w14.heap.size w14 w15 by ((with_reducible (repeat (first | exact bR _ _ | refine bS ?_ ?_ _ | refine bA ?_ ?_ _ | refine bD ?_ | refine bT ?_ (by assumption) ?_ | refine bO (by assumption) ?_ ?_))) <;> (first | omega | (simp; done) | (simp <;> omega))))
  have HH2 := Lib.hid (show IsC w15 (.agg #[.bool (decide (zh < 0)), .slice A15 (canN zh.natAbs).length c15]) zh from ⟨A15, c15, rfl, hc15, hA15⟩)
  replace HA := Lib.hid (HA.out.below HW15.out)
  replace HB0 := Lib.hid (HB0.out.below HW15.out)
  replace HS1 := Lib.hid (HS1.out.below HW15.out)
  replace HD1 := Lib.hid (HD1.out.below HW15.out)
  replace HP1 := Lib.hid (HP1.out.below HW15.out)
  replace HQ1 := Lib.hid (HQ1.out.below HW15.out)
  replace HR1 := Lib.hid (HR1.out.below HW15.out)
  replace HG1 := Lib.hid (HG1.out.below HW15.out)
  replace HH1 := Lib.hid (HH1.out.below HW15.out)
  replace HS2 := Lib.hid (HS2.out.below HW15.out)
  replace HD2 := Lib.hid (HD2.out.below HW15.out)
  replace HP2 := Lib.hid (HP2.out.below HW15.out)
  replace HQ2 := Lib.hid (HQ2.out.below HW15.out)
  replace HR2 := Lib.hid (HR2.out.below HW15.out)
  replace HG2 := Lib.hid (HG2.out.below HW15.out)
  have hz15 : w.heap.size ≤ w15.heap.size := by omega
  replace HB := Lib.hid (HB.out.trans (HW15.out.mono (by omega)))
  clear hb_w15 HW15 hc15 hA15
  go_wp2_with fail
  -- own blocks besides: w15.heap.size:2
  (go_at_call 16; refine (S1.out _ _ _ (HS1.out.below ((Below.refl _ _).alloc (Nat.le_refl _) _)) (HS2.out.below ((Below.refl _ _).alloc (Nat.le_refl _) _))).mono ?_; rintro e w16 ⟨rfl, hb_w16⟩; have hz_w16 := hb_w16.size; (try simp at hz_w16); (with_reducible apply cel2 (b := w.heap.size) hb_w16); (focus ((try simp) <;> omega)); (focus omega); (focus (go_simp; try exact rfl)); (focus (go_simp; try exact rfl)); (focus (intro o; go_simp)); intro cc cc fz hl; (with_reducible apply cel2 (b := w.heap.size + 1) hb_w16); (focus ((try simp) <;> omega)); (focus omega); (focus (go_simp; try exact rfl)); (focus (go_simp; try exact rfl)); (focus (intro o; go_simp)); intro cc cc fz hl; (with_reducible apply cel2 (b := w4.heap.size) hb_w16); (focus ((try simp) <;> omega)); (focus omega); (focus (go_simp; try exact rfl)); (focus (go_simp; try exact rfl)); (focus (intro o; go_simp)); intro cc cc fz hl; (with_reducible apply cel2 (b := w5.heap.size) hb_w16); (focus ((try simp) <;> omega)); (focus omega); (focus (go_simp; try exact rfl)); (focus (go_simp; try exact rfl)); (focus (intro o; go_simp)); intro cc cc fz hl; (with_reducible apply cel2 (b := w6.heap.size) hb_w16); (focus ((try simp) <;> omega)); (focus omega); (focus (go_simp; try exact rfl)); (focus (go_simp; try exact rfl)); (focus (intro o; go_simp)); intro cc cc fz hl; (with_reducible apply cel2 (b := w7.heap.size) hb_w16); (focus ((try simp) <;> omega)); (focus omega); (focus (go_simp; try exact rfl)); (focus (go_simp; try exact rfl)); (focus (intro o; go_simp)); intro cc cc fz hl; (with_reducible apply cel2 (b := w7.heap.size + 1) hb_w16); (focus ((try simp) <;> omega)); (focus omega); (focus (go_simp; try exact rfl)); (focus (go_simp; try exact rfl)); (focus (intro o; go_simp)); intro cc cc fz hl; (with_reducible apply cel2 (b := w8.heap.size) hb_w16); (focus ((try simp) <;> omega)); (focus omega); (focus (go_simp; try exact rfl)); (focus (go_simp; try exact rfl)); (focus (intro o; go_simp)); intro cc cc fz hl; (with_reducible apply cel2 (b := w9.heap.size) hb_w16); (focus ((try simp) <;> omega)); (focus omega); (focus (go_simp; try exact rfl)); (focus (go_simp; try exact rfl)); (focus (intro o; go_simp)); intro cc cc fz hl; (with_reducible apply cel2 (b := w10.heap.size) hb_w16); (focus ((try simp) <;> omega)); (focus omega); (focus (go_simp; try exact rfl)); (focus (go_simp; try exact rfl)); (focus (intro o; go_simp)); intro cc cc fz hl; (with_reducible apply cel2 (b := w11.heap.size) hb_w16); (focus ((try simp) <;> omega)); (focus omega); (focus (go_simp; try exact rfl)); (focus (go_simp; try exact rfl)); (focus (intro o; go_simp)); intro cc cc fz hl; (with_reducible apply cel2 (b := w12.heap.size) hb_w16); (focus ((try simp) <;> omega)); (focus omega); (focus (go_simp; try exact rfl)); (focus (go_simp; try exact rfl)); (focus (intro o; go_simp)); intro cc cc fz hl; (with_reducible apply cel2 (b := w13.heap.size) hb_w16); (focus ((try simp) <;> omega)); (focus omega); (focus (go_simp; try exact rfl)); (focus (go_simp; try exact rfl)); (focus (intro o; go_simp)); intro cc cc fz hl; (with_reducible apply cel2 (b := w13.heap.size + 1) hb_w16); (focus ((try simp) <;> omega)); (focus omega); (focus (go_simp; try exact rfl)); (focus (go_simp; try exact rfl)); (focus (intro o; go_simp)); intro cc cc fz hl; (with_reducible apply cel2 (b := w14.heap.size) hb_w16); (focus ((try simp) <;> omega)); (focus omega); (focus (go_simp; try exact rfl)); (focus (go_simp; try exact rfl)); (focus (intro o; go_simp)); intro cc cc fz hl; (with_reducible apply cel2 (b := w15.heap.size) hb_w16); (focus ((try simp) <;> omega)); (focus omega); (focus (go_simp; try exact rfl)); (focus (go_simp; try exact rfl)); (focus (intro o; go_simp)); intro cc cc fz hl)
  have HW16 := Lib.hid (show Below w15.heap.size w15 w16 by ((with_reducible (repeat (first | exact bR _ _ | refine bS ?_ ?_ _ | refine bA ?_ ?_ _ | refine bD ?_ | refine bT ?_ (by assumption) ?_ | refine bO (by assumption) ?_ ?_))) <;> (first | omega | (simp; done) | (simp <;> omega))))
  replace HA := Lib.hid (HA.out.below HW16.out)
  replace HB0 := Lib.hid (HB0.out.below HW16.out)
  replace HS1 := Lib.hid (HS1.out.below HW16.out)
  replace HD1 := Lib.hid (HD1.out.below HW16.out)
  replace HP1 := Lib.hid (HP1.out.below HW16.out)
  replace HQ1 := Lib.hid (HQ1.out.below HW16.out)
  replace HR1 := Lib.hid (HR1.out.below HW16.out)
  replace HG1 := Lib.hid (HG1.out.below HW16.out)
  replace HH1 := Lib.hid (HH1.out.below HW16.out)
  replace HS2 := Lib.hid (HS2.out.below HW16.out)
  replace HD2 := Lib.hid (HD2.out.below HW16.out)
  replace HP2 := Lib.hid (HP2.out.below HW16.out)
  replace HQ2 := Lib.hid (HQ2.out.below HW16.out)
  replace HR2 := Lib.hid (HR2.out.below HW16.out)
  replace HG2 := Lib.hid (HG2.out.below HW16.out)
  replace HH2 := Lib.hid (HH2.out.below HW16.out)
  have hz16 : w.heap.size ≤ w16.heap.size := by omega
  replace HB := Lib.hid (HB.out.trans (HW16.out.mono (by omega)))
  clear hb_w16 HW16
  clear HS1 HS2
  go_wp2_with fail
  (go_at_call 16; refine (S2.out _ _ _ (HD1.out.below (Below.refl _ _)) (HD2.out.below (Below.refl _ _))).mono ?_; rintro e w17 ⟨rfl, hb_w17⟩; have hz_w17 := hb_w17.size; (try simp at hz_w17); (with_reducible apply cel2 (b := w.heap.size) hb_w17); (focus ((try simp) <;> omega)); (focus omega); (focus (go_simp; try exact rfl)); (focus (go_simp; try exact rfl)); (focus (intro o; go_simp)); intro cc cc fz hl; (with_reducible apply cel2 (b := w.heap.size + 1) hb_w17); (focus ((try simp) <;> omega)); (focus omega); (focus (go_simp; try exact rfl)); (focus (go_simp; try exact rfl)); (focus (intro o; go_simp)); intro cc cc fz hl; (with_reducible apply cel2 (b := w4.heap.size) hb_w17); (focus ((try simp) <;> omega)); (focus omega); (focus (go_simp; try exact rfl)); (focus (go_simp; try exact rfl)); (focus (intro o; go_simp)); intro cc cc fz hl; (with_reducible apply cel2 (b := w5.heap.size) hb_w17); (focus ((try simp) <;> omega)); (focus omega); (focus (go_simp; try exact rfl)); (focus (go_simp; try exact rfl)); (focus (intro o; go_simp)); intro cc cc fz hl; (with_reducible apply cel2 (b := w6.heap.size) hb_w17); (focus ((try simp) <;> omega)); (focus omega); (focus (go_simp; try exact rfl)); (focus (go_simp; try exact rfl)); (focus (intro o; go_simp)); intro cc cc fz hl; (with_reducible apply cel2 (b := w7.heap.size) hb_w17); (focus ((try simp) <;> omega)); (focus omega); (focus (go_simp; try exact rfl)); (focus (go_simp; try exact rfl)); (focus (intro o; go_simp)); intro cc cc fz hl; (with_reducible apply cel2 (b := w7.heap.size + 1) hb_w17); (focus ((try simp) <;> omega)); (focus omega); (focus (go_simp; try exact rfl)); (focus (go_simp; try exact rfl)); (focus (intro o; go_simp)); intro cc cc fz hl; (with_reducible apply cel2 (b := w8.heap.size) hb_w17); (focus ((try simp) <;> omega)); (focus omega); (focus (go_simp; try exact rfl)); (focus (go_simp; try exact rfl)); (focus (intro o; go_simp)); intro cc cc fz hl; (with_reducible apply cel2 (b := w9.heap.size) hb_w17); (focus ((try simp) <;> omega)); (focus omega); (focus (go_simp; try exact rfl)); (focus (go_simp; try exact rfl)); (focus (intro o; go_simp)); intro cc cc fz hl; (with_reducible apply cel2 (b := w10.heap.size) hb_w17); (focus ((try simp) <;> omega)); (focus omega); (focus (go_simp; try exact rfl)); (focus (go_simp; try exact rfl)); (focus (intro o; go_simp)); intro cc cc fz hl; (with_reducible apply cel2 (b := w11.heap.size) hb_w17); (focus ((try simp) <;> omega)); (focus omega); (focus (go_simp; try exact rfl)); (focus (go_simp; try exact rfl)); (focus (intro o; go_simp)); intro cc cc fz hl; (with_reducible apply cel2 (b := w12.heap.size) hb_w17); (focus ((try simp) <;> omega)); (focus omega); (focus (go_simp; try exact rfl)); (focus (go_simp; try exact rfl)); (focus (intro o; go_simp)); intro cc cc fz hl; (with_reducible apply cel2 (b := w13.heap.size) hb_w17); (focus ((try simp) <;> omega)); (focus omega); (focus (go_simp; try exact rfl)); (focus (go_simp; try exact rfl)); (focus (intro o; go_simp)); intro cc cc fz hl; (with_reducible apply cel2 (b := w13.heap.size + 1) hb_w17); (focus ((try simp) <;> omega)); (focus omega); (focus (go_simp; try exact rfl)); (focus (go_simp; try exact rfl)); (focus (intro o; go_simp)); intro cc cc fz hl; (with_reducible apply cel2 (b := w14.heap.size) hb_w17); (focus ((try simp) <;> omega)); (focus omega); (focus (go_simp; try exact rfl)); (focus (go_simp; try exact rfl)); (focus (intro o; go_simp)); intro cc cc fz hl; (with_reducible apply cel2 (b := w15.heap.size) hb_w17); (focus ((try simp) <;> omega)); (focus omega); (focus (go_simp; try exact rfl)); (focus (go_simp; try exact rfl)); (focus (intro o; go_simp)); intro cc cc fz hl)
  have HW17 := Lib.hid (show Below w16.heap.size w16 w17 by ((with_reducible (repeat (first | exact bR _ _ | refine bS ?_ ?_ _ | refine bA ?_ ?_ _ | refine bD ?_ | refine bT ?_ (by assumption) ?_ | refine bO (by assumption) ?_ ?_))) <;> (first | omega | (simp; done) | (simp <;> omega))))
  replace HA := Lib.hid (HA.out.below HW17.out)
  replace HB0 := Lib.hid (HB0.out.below HW17.out)
  replace HD1 := Lib.hid (HD1.out.below HW17.out)
  replace HP1 := Lib.hid (HP1.out.below HW17.out)
  replace HQ1 := Lib.hid (HQ1.out.below HW17.out)
  replace HR1 := Lib.hid (HR1.out.below HW17.out)
  replace HG1 := Lib.hid (HG1.out.below HW17.out)
  replace HH1 := Lib.hid (HH1.out.below HW17.out)
  replace HD2 := Lib.hid (HD2.out.below HW17.out)
  replace HP2 := Lib.hid (HP2.out.below HW17.out)
  replace HQ2 := Lib.hid (HQ2.out.below HW17.out)
  replace HR2 := Lib.hid (HR2.out.below HW17.out)
  replace HG2 := Lib.hid (HG2.out.below HW17.out)
  replace HH2 := Lib.hid (HH2.out.below HW17.out)
  have hz17 : w.heap.size ≤ w17.heap.size := by omega
  replace HB := Lib.hid (HB.out.trans (HW17.out.mono (by omega)))
  clear hb_w17 HW17
  clear HD1 HD2
  go_wp2_with fail
  (go_at_call 16; refine (S3.out _ _ _ (HP1.out.below (Below.refl _ _)) (HP2.out.below (Below.refl _ _))).mono ?_; rintro e w18 ⟨rfl, hb_w18⟩; have hz_w18 := hb_w18.size; (try simp at hz_w18); (with_reducible apply cel2 (b := w.heap.size) hb_w18); (focus ((try simp) <;> omega)); (focus omega); (focus (go_simp; try exact rfl)); (focus (go_simp; try exact rfl)); (focus (intro o; go_simp)); intro cc cc fz hl; (with_reducible apply cel2 (b := w.heap.size + 1) hb_w18); (focus ((try simp) <;> omega)); (focus omega); (focus (go_simp; try exact rfl)); (focus (go_simp; try exact rfl)); (focus (intro o; go_simp)); intro cc cc fz hl; (with_reducible apply cel2 (b := w4.heap.size) hb_w18); (focus ((try simp) <;> omega)); (focus omega); (focus (go_simp; try exact rfl)); (focus (go_simp; try exact rfl)); (focus (intro o; go_simp)); intro cc cc fz hl; (with_reducible apply cel2 (b := w5.heap.size) hb_w18); (focus ((try simp) <;> omega)); (focus omega); (focus (go_simp; try exact rfl)); (focus (go_simp; try exact rfl)); (focus (intro o; go_simp)); intro cc cc fz hl; (with_reducible apply cel2 (b := w6.heap.size) hb_w18); (focus ((try simp) <;> omega)); (focus omega); (focus (go_simp; try exact rfl)); (focus (go_simp; try exact rfl)); (focus (intro o; go_simp)); intro cc cc fz hl; (with_reducible apply cel2 (b := w7.heap.size) hb_w18); (focus ((try simp) <;> omega)); (focus omega); (focus (go_simp; try exact rfl)); (focus (go_simp; try exact rfl)); (focus (intro o; go_simp)); intro cc cc fz hl; (with_reducible apply cel2 (b := w7.heap.size + 1) hb_w18); (focus ((try simp) <;> omega)); (focus omega); (focus (go_simp; try exact rfl)); (focus (go_simp; try exact rfl)); (focus (intro o; go_simp)); intro cc cc fz hl; (with_reducible apply cel2 (b := w8.heap.size) hb_w18); (focus ((try simp) <;> omega)); (focus omega); (focus (go_simp; try exact rfl)); (focus (go_simp; try exact rfl)); (focus (intro o; go_simp)); intro cc cc fz hl; (with_reducible apply cel2 (b := w9.heap.size) hb_w18); (focus ((try simp) <;> omega)); (focus omega); (focus (go_simp; try exact rfl)); (focus (go_simp; try exact rfl)); (focus (intro o; go_simp)); intro cc cc fz hl; (with_reducible apply cel2 (b := w10.heap.size) hb_w18); (focus ((try simp) <;> omega)); (focus omega); (focus (go_simp; try exact rfl)); (focus (go_simp; try exact rfl)); (focus (intro o; go_simp)); intro cc cc fz hl; (with_reducible apply cel2 (b := w11.heap.size) hb_w18); (focus ((try simp) <;> omega)); (focus omega); (focus (go_simp; try exact rfl)); (focus (go_simp; try exact rfl)); (focus (intro o; go_simp)); intro cc cc fz hl; (with_reducible apply cel2 (b := w12.heap.size) hb_w18); (focus ((try simp) <;> omega)); (focus omega); (focus (go_simp; try exact rfl)); (focus (go_simp; try exact rfl)); (focus (intro o; go_simp)); intro cc cc fz hl; (with_reducible apply cel2 (b := w13.heap.size) hb_w18); (focus ((try simp) <;> omega)); (focus omega); (focus (go_simp; try exact rfl)); (focus (go_simp; try exact rfl)); (focus (intro o; go_simp)); intro cc cc fz hl; (with_reducible apply cel2 (b := w13.heap.size + 1) hb_w18); (focus ((try simp) <;> omega)); (focus omega); (focus (go_simp; try exact rfl)); (focus (go_simp; try exact rfl)); (focus (intro o; go_simp)); intro cc cc fz hl; (with_reducible apply cel2 (b := w14.heap.size) hb_w18); (focus ((try simp) <;> omega)); (focus omega); (focus (go_simp; try exact rfl)); (focus (go_simp; try exact rfl)); (focus (intro o; go_simp)); intro cc cc fz hl; (with_reducible apply cel2 (b := w15.heap.size) hb_w18); (focus ((try simp) <;> omega)); (focus omega); (focus (go_simp; try exact rfl)); (focus (go_simp; try exact rfl)); (focus (intro o; go_simp)); intro cc cc fz hl)
  have HW18 := Lib.hid (show Below w17.heap.size w17 w18 by ((with_reducible (repeat (first | exact bR _ _ | refine bS ?_ ?_ _ | refine bA ?_ ?_ _ | refine bD ?_ | refine bT ?_ (by assumption) ?_ | refine bO (by assumption) ?_ ?_))) <;> (first | omega | (simp; done) | (simp <;> omega))))
  replace HA := Lib.hid (HA.out.below HW18.out)
  replace HB0 := Lib.hid (HB0.out.below HW18.out)
  replace HP1 := Lib.hid (HP1.out.below HW18.out)
  replace HQ1 := Lib.hid (HQ1.out.below HW18.out)
  replace HR1 := Lib.hid (HR1.out.below HW18.out)
  replace HG1 := Lib.hid (HG1.out.below HW18.out)
  replace HH1 := Lib.hid (HH1.out.below HW18.out)
  replace HP2 := Lib.hid (HP2.out.below HW18.out)
  replace HQ2 := Lib.hid (HQ2.out.below HW18.out)
  replace HR2 := Lib.hid (HR2.out.below HW18.out)
  replace HG2 := Lib.hid (HG2.out.below HW18.out)
  replace HH2 := Lib.hid (HH2.out.below HW18.out)
  have hz18 : w.heap.size ≤ w18.heap.size := by omega
  replace HB := Lib.hid (HB.out.trans (HW18.out.mono (by omega)))
  clear hb_w18 HW18
  clear HP1 HP2
  go_wp2_with fail
  (go_at_call 16; refine (S4.out _ _ _ (HQ1.out.below (Below.refl _ _)) (HQ2.out.below (Below.refl _ _))).mono ?_; rintro e w19 ⟨rfl, hb_w19⟩; have hz_w19 := hb_w19.size; (try simp at hz_w19); (with_reducible apply cel2 (b := w.heap.size) hb_w19); (focus ((try simp) <;> omega)); (focus omega); (focus (go_simp; try exact rfl)); (focus (go_simp; try exact rfl)); (focus (intro o; go_simp)); intro cc cc fz hl; (with_reducible apply cel2 (b := w.heap.size + 1) hb_w19); (focus ((try simp) <;> omega)); (focus omega); (focus (go_simp; try exact rfl)); (focus (go_simp; try exact rfl)); (focus (intro o; go_simp)); intro cc cc fz hl; (with_reducible apply cel2 (b := w4.heap.size) hb_w19); (focus ((try simp) <;> omega)); (focus omega); (focus (go_simp; try exact rfl)); (focus (go_simp; try exact rfl)); (focus (intro o; go_simp)); intro cc cc fz hl; (with_reducible apply cel2 (b := w5.heap.size) hb_w19); (focus ((try simp) <;> omega)); (focus omega); (focus (go_simp; try exact rfl)); (focus (go_simp; try exact rfl)); (focus (intro o; go_simp)); intro cc cc fz hl; (with_reducible apply cel2 (b := w6.heap.size) hb_w19); (focus ((try simp) <;> omega)); (focus omega); (focus (go_simp; try exact rfl)); (focus (go_simp; try exact rfl)); (focus (intro o; go_simp)); intro cc cc fz hl; (with_reducible apply cel2 (b := w7.heap.size) hb_w19); (focus ((try simp) <;> omega)); (focus omega); (focus (go_simp; try exact rfl)); (focus (go_simp; try exact rfl)); (focus (intro o; go_simp)); intro cc cc fz hl; (with_reducible apply cel2 (b := w7.heap.size + 1) hb_w19); (focus ((try simp) <;> omega)); (focus omega); (focus (go_simp; try exact rfl)); (focus (go_simp; try exact rfl)); (focus (intro o; go_simp)); intro cc cc fz hl; (with_reducible apply cel2 (b := w8.heap.size) hb_w19); (focus ((try simp) <;> omega)); (focus omega); (focus (go_simp; try exact rfl)); (focus (go_simp; try exact rfl)); (focus (intro o; go_simp)); intro cc cc fz hl; (with_reducible apply cel2 (b := w9.heap.size) hb_w19); (focus ((try simp) <;> omega)); (focus omega); (focus (go_simp; try exact rfl)); (focus (go_simp; try exact rfl)); (focus (intro o; go_simp)); intro cc cc fz hl; (with_reducible apply cel2 (b := w10.heap.size) hb_w19); (focus ((try simp) <;> omega)); (focus omega); (focus (go_simp; try exact rfl)); (focus (go_simp; try exact rfl)); (focus (intro o; go_simp)); intro cc cc fz hl; (with_reducible apply cel2 (b := w11.heap.size) hb_w19); (focus ((try simp) <;> omega)); (focus omega); (focus (go_simp; try exact rfl)); (focus (go_simp; try exact rfl)); (focus (intro o; go_simp)); intro cc cc fz hl; (with_reducible apply cel2 (b := w12.heap.size) hb_w19); (focus ((try simp) <;> omega)); (focus omega); (focus (go_simp; try exact rfl)); (focus (go_simp; try exact rfl)); (focus (intro o; go_simp)); intro cc cc fz hl; (with_reducible apply cel2 (b := w13.heap.size) hb_w19); (focus ((try simp) <;> omega)); (focus omega); (focus (go_simp; try exact rfl)); (focus (go_simp; try exact rfl)); (focus (intro o; go_simp)); intro cc cc fz hl; (with_reducible apply cel2 (b := w13.heap.size + 1) hb_w19); (focus ((try simp) <;> omega)); (focus omega); (focus (go_simp; try exact rfl)); (focus (go_simp; try exact rfl)); (focus (intro o; go_simp)); intro cc cc fz hl; (with_reducible apply cel2 (b := w14.heap.size) hb_w19); (focus ((try simp) <;> omega)); (focus omega); (focus (go_simp; try exact rfl)); (focus (go_simp; try exact rfl)); (focus (intro o; go_simp)); intro cc cc fz hl; (with_reducible apply cel2 (b := w15.heap.size) hb_w19); (focus ((try simp) <;> omega)); (focus omega); (focus (go_simp; try exact rfl)); (focus (go_simp; try exact rfl)); (focus (intro o; go_simp)); intro cc cc fz hl)
  have HW19 := Lib.hid (show Below w18.heap.size w18 w19 by ((with_reducible (repeat (first | exact bR _ _ | refine bS ?_ ?_ _ | refine bA ?_ ?_ _ | refine bD ?_ | refine bT ?_ (by assumption) ?_ | refine bO (by assumption) ?_ ?_))) <;> (first | omega | (simp; done) | (simp <;> omega))))
  replace HA := Lib.hid (HA.out.below HW19.out)
  replace HB0 := Lib.hid (HB0.out.below HW19.out)
  replace HQ1 := Lib.hid (HQ1.out.below HW19.out)
  replace HR1 := Lib.hid (HR1.out.below HW19.out)
  replace HG1 := Lib.hid (HG1.out.below HW19.out)
  replace HH1 := Lib.hid (HH1.out.below HW19.out)
  replace HQ2 := Lib.hid (HQ2.out.below HW19.out)
  replace HR2 := Lib.hid (HR2.out.below HW19.out)
  replace HG2 := Lib.hid (HG2.out.below HW19.out)
  replace HH2 := Lib.hid (HH2.out.below HW19.out)
  have hz19 : w.heap.size ≤ w19.heap.size := by omega
  replace HB := Lib.hid (HB.out.trans (HW19.out.mono (by omega)))
  clear hb_w19 HW19
  clear HQ1 HQ2
  go_wp2_with fail
  (go_at_call 39; refine (S5.out _ _ _ (HR1.out.below (Below.refl _ _)) (HR2.out.below (Below.refl _ _))).mono ?_; rintro e w20 ⟨rfl, hb_w20⟩; have hz_w20 := hb_w20.size; (try simp at hz_w20); (with_reducible apply cel2 (b := w.heap.size) hb_w20); (focus ((try simp) <;> omega)); (focus omega); (focus (go_simp; try exact rfl)); (focus (go_simp; try exact rfl)); (focus (intro o; go_simp)); intro cc cc fz hl; (with_reducible apply cel2 (b := w.heap.size + 1) hb_w20); (focus ((try simp) <;> omega)); (focus omega); (focus (go_simp; try exact rfl)); (focus (go_simp; try exact rfl)); (focus (intro o; go_simp)); intro cc cc fz hl; (with_reducible apply cel2 (b := w4.heap.size) hb_w20); (focus ((try simp) <;> omega)); (focus omega); (focus (go_simp; try exact rfl)); (focus (go_simp; try exact rfl)); (focus (intro o; go_simp)); intro cc cc fz hl; (with_reducible apply cel2 (b := w5.heap.size) hb_w20); (focus ((try simp) <;> omega)); (focus omega); (focus (go_simp; try exact rfl)); (focus (go_simp; try exact rfl)); (focus (intro o; go_simp)); intro cc cc fz hl; (with_reducible apply cel2 (b := w6.heap.size) hb_w20); (focus ((try simp) <;> omega)); (focus omega); (focus (go_simp; try exact rfl)); (focus (go_simp; try exact rfl)); (focus (intro o; go_simp)); intro cc cc fz hl; (with_reducible apply cel2 (b := w7.heap.size) hb_w20); (focus ((try simp) <;> omega)); (focus omega); (focus (go_simp; try exact rfl)); (focus (go_simp; try exact rfl)); (focus (intro o; go_simp)); intro cc cc fz hl; (with_reducible apply cel2 (b := w7.heap.size + 1) hb_w20); (focus ((try simp) <;> omega)); (focus omega); (focus (go_simp; try exact rfl)); (focus (go_simp; try exact rfl)); (focus (intro o; go_simp)); intro cc cc fz hl; (with_reducible apply cel2 (b := w8.heap.size) hb_w20); (focus ((try simp) <;> omega)); (focus omega); (focus (go_simp; try exact rfl)); (focus (go_simp; try exact rfl)); (focus (intro o; go_simp)); intro cc cc fz hl; (with_reducible apply cel2 (b := w9.heap.size) hb_w20); (focus ((try simp) <;> omega)); (focus omega); (focus (go_simp; try exact rfl)); (focus (go_simp; try exact rfl)); (focus (intro o; go_simp)); intro cc cc fz hl; (with_reducible apply cel2 (b := w10.heap.size) hb_w20); (focus ((try simp) <;> omega)); (focus omega); (focus (go_simp; try exact rfl)); (focus (go_simp; try exact rfl)); (focus (intro o; go_simp)); intro cc cc fz hl; (with_reducible apply cel2 (b := w11.heap.size) hb_w20); (focus ((try simp) <;> omega)); (focus omega); (focus (go_simp; try exact rfl)); (focus (go_simp; try exact rfl)); (focus (intro o; go_simp)); intro cc cc fz hl; (with_reducible apply cel2 (b := w12.heap.size) hb_w20); (focus ((try simp) <;> omega)); (focus omega); (focus (go_simp; try exact rfl)); (focus (go_simp; try exact rfl)); (focus (intro o; go_simp)); intro cc cc fz hl; (with_reducible apply cel2 (b := w13.heap.size) hb_w20); (focus ((try simp) <;> omega)); (focus omega); (focus (go_simp; try exact rfl)); (focus (go_simp; try exact rfl)); (focus (intro o; go_simp)); intro cc cc fz hl; (with_reducible apply cel2 (b := w13.heap.size + 1) hb_w20); (focus ((try simp) <;> omega)); (focus omega); (focus (go_simp; try exact rfl)); (focus (go_simp; try exact rfl)); (focus (intro o; go_simp)); intro cc cc fz hl; (with_reducible apply cel2 (b := w14.heap.size) hb_w20); (focus ((try simp) <;> omega)); (focus omega); (focus (go_simp; try exact rfl)); (focus (go_simp; try exact rfl)); (focus (intro o; go_simp)); intro cc cc fz hl; (with_reducible apply cel2 (b := w15.heap.size) hb_w20); (focus ((try simp) <;> omega)); (focus omega); (focus (go_simp; try exact rfl)); (focus (go_simp; try exact rfl)); (focus (intro o; go_simp)); intro cc cc fz hl)
  have HW20 := Lib.hid (show Below w19.heap.size w19 w20 by ((with_reducible (repeat (first | exact bR _ _ | refine bS ?_ ?_ _ | refine bA ?_ ?_ _ | refine bD ?_ | refine bT ?_ (by assumption) ?_ | refine bO (by assumption) ?_ ?_))) <;> (first | omega | (simp; done) | (simp <;> omega))))
  replace HA := Lib.hid (HA.out.below HW20.out)
  replace HB0 := Lib.hid (HB0.out.below HW20.out)
  replace HR1 := Lib.hid (HR1.out.below HW20.out)
  replace HG1 := Lib.hid (HG1.out.below HW20.out)
  replace HH1 := Lib.hid (HH1.out.below HW20.out)
  replace HR2 := Lib.hid (HR2.out.below HW20.out)
  replace HG2 := Lib.hid (HG2.out.below HW20.out)
  replace HH2 := Lib.hid (HH2.out.below HW20.out)
  have hz20 : w.heap.size ≤ w20.heap.size := by omega
  replace HB := Lib.hid (HB.out.trans (HW20.out.mono (by omega)))
  clear hb_w20 HW20
  clear HR1 HR2
  go_wp2_with fail
  (go_at_call 16; refine (S6.out _ _ _ (HG1.out.below (Below.refl _ _)) (HG2.out.below (Below.refl _ _))).mono ?_; rintro e w21 ⟨rfl, hb_w21⟩; have hz_w21 := hb_w21.size; (try simp at hz_w21); (with_reducible apply cel2 (b := w.heap.size) hb_w21); (focus ((try simp) <;> omega)); (focus omega); (focus (go_simp; try exact rfl)); (focus (go_simp; try exact rfl)); (focus (intro o; go_simp)); intro cc cc fz hl; (with_reducible apply cel2 (b := w.heap.size + 1) hb_w21); (focus ((try simp) <;> omega)); (focus omega); (focus (go_simp; try exact rfl)); (focus (go_simp; try exact rfl)); (focus (intro o; go_simp)); intro cc cc fz hl; (with_reducible apply cel2 (b := w4.heap.size) hb_w21); (focus ((try simp) <;> omega)); (focus omega); (focus (go_simp; try exact rfl)); (focus (go_simp; try exact rfl)); (focus (intro o; go_simp)); intro cc cc fz hl; (with_reducible apply cel2 (b := w5.heap.size) hb_w21); (focus ((try simp) <;> omega)); (focus omega); (focus (go_simp; try exact rfl)); (focus (go_simp; try exact rfl)); (focus (intro o; go_simp)); intro cc cc fz hl; (with_reducible apply cel2 (b := w6.heap.size) hb_w21); (focus ((try simp) <;> omega)); (focus omega); (focus (go_simp; try exact rfl)); (focus (go_simp; try exact rfl)); (focus (intro o; go_simp)); intro cc cc fz hl; (with_reducible apply cel2 (b := w7.heap.size) hb_w21); (focus ((try simp) <;> omega)); (focus omega); (focus (go_simp; try exact rfl)); (focus (go_simp; try exact rfl)); (focus (intro o; go_simp)); intro cc cc fz hl; (with_reducible apply cel2 (b := w7.heap.size + 1) hb_w21); (focus ((try simp) <;> omega)); (focus omega); (focus (go_simp; try exact rfl)); (focus (go_simp; try exact rfl)); (focus (intro o; go_simp)); intro cc cc fz hl; (with_reducible apply cel2 (b := w8.heap.size) hb_w21); (focus ((try simp) <;> omega)); (focus omega); (focus (go_simp; try exact rfl)); (focus (go_simp; try exact rfl)); (focus (intro o; go_simp)); intro cc cc fz hl; (with_reducible apply cel2 (b := w9.heap.size) hb_w21); (focus ((try simp) <;> omega)); (focus omega); (focus (go_simp; try exact rfl)); (focus (go_simp; try exact rfl)); (focus (intro o; go_simp)); intro cc cc fz hl; (with_reducible apply cel2 (b := w10.heap.size) hb_w21); (focus ((try simp) <;> omega)); (focus omega); (focus (go_simp; try exact rfl)); (focus (go_simp; try exact rfl)); (focus (intro o; go_simp)); intro cc cc fz hl; (with_reducible apply cel2 (b := w11.heap.size) hb_w21); (focus ((try simp) <;> omega)); (focus omega); (focus (go_simp; try exact rfl)); (focus (go_simp; try exact rfl)); (focus (intro o; go_simp)); intro cc cc fz hl; (with_reducible apply cel2 (b := w12.heap.size) hb_w21); (focus ((try simp) <;> omega)); (focus omega); (focus (go_simp; try exact rfl)); (focus (go_simp; try exact rfl)); (focus (intro o; go_simp)); intro cc cc fz hl; (with_reducible apply cel2 (b := w13.heap.size) hb_w21); (focus ((try simp) <;> omega)); (focus omega); (focus (go_simp; try exact rfl)); (focus (go_simp; try exact rfl)); (focus (intro o; go_simp)); intro cc cc fz hl; (with_reducible apply cel2 (b := w13.heap.size + 1) hb_w21); (focus ((try simp) <;> omega)); (focus omega); (focus (go_simp; try exact rfl)); (focus (go_simp; try exact rfl)); (focus (intro o; go_simp)); intro cc cc fz hl; (with_reducible apply cel2 (b := w14.heap.size) hb_w21); (focus ((try simp) <;> omega)); (focus omega); (focus (go_simp; try exact rfl)); (focus (go_simp; try exact rfl)); (focus (intro o; go_simp)); intro cc cc fz hl; (with_reducible apply cel2 (b := w15.heap.size) hb_w21); (focus ((try simp) <;> omega)); (focus omega); (focus (go_simp; try exact rfl)); (focus (go_simp; try exact rfl)); (focus (intro o; go_simp)); intro cc cc fz hl)
  have HW21 := Lib.hid (show Below w20.heap.size w20 w21 by ((with_reducible (repeat (first | exact bR _ _ | refine bS ?_ ?_ _ | refine bA ?_ ?_ _ | refine bD ?_ | refine bT ?_ (by assumption) ?_ | refine bO (by assumption) ?_ ?_))) <;> (first | omega | (simp; done) | (simp <;> omega))))
  replace HA := Lib.hid (HA.out.below HW21.out)
  replace HB0 := Lib.hid (HB0.out.below HW21.out)
  replace HG1 := Lib.hid (HG1.out.below HW21.out)
  replace HH1 := Lib.hid (HH1.out.below HW21.out)
  replace HG2 := Lib.hid (HG2.out.below HW21.out)
  replace HH2 := Lib.hid (HH2.out.below HW21.out)
  have hz21 : w.heap.size ≤ w21.heap.size := by omega
  replace HB := Lib.hid (HB.out.trans (HW21.out.mono (by omega)))
  clear hb_w21 HW21
  clear HG1 HG2
  go_wp2_with fail
  (go_at_call 16; refine (S7.out _ _ _ (HH1.out.below (Below.refl _ _)) (HH2.out.below (Below.refl _ _))).mono ?_; rintro e w22 ⟨rfl, hb_w22⟩; have hz_w22 := hb_w22.size; (try simp at hz_w22); (with_reducible apply cel2 (b := w.heap.size) hb_w22); (focus ((try simp) <;> omega)); (focus omega); (focus (go_simp; try exact rfl)); (focus (go_simp; try exact rfl)); (focus (intro o; go_simp)); intro cc cc fz hl; (with_reducible apply cel2 (b := w.heap.size + 1) hb_w22); (focus ((try simp) <;> omega)); (focus omega); (focus (go_simp; try exact rfl)); (focus (go_simp; try exact rfl)); (focus (intro o; go_simp)); intro cc cc fz hl; (with_reducible apply cel2 (b := w4.heap.size) hb_w22); (focus ((try simp) <;> omega)); (focus omega); (focus (go_simp; try exact rfl)); (focus (go_simp; try exact rfl)); (focus (intro o; go_simp)); intro cc cc fz hl; (with_reducible apply cel2 (b := w5.heap.size) hb_w22); (focus ((try simp) <;> omega)); (focus omega); (focus (go_simp; try exact rfl)); (focus (go_simp; try exact rfl)); (focus (intro o; go_simp)); intro cc cc fz hl; (with_reducible apply cel2 (b := w6.heap.size) hb_w22); (focus ((try simp) <;> omega)); (focus omega); (focus (go_simp; try exact rfl)); (focus (go_simp; try exact rfl)); (focus (intro o; go_simp)); intro cc cc fz hl; (with_reducible apply cel2 (b := w7.heap.size) hb_w22); (focus ((try simp) <;> omega)); (focus omega); (focus (go_simp; try exact rfl)); (focus (go_simp; try exact rfl)); (focus (intro o; go_simp)); intro cc cc fz hl; (with_reducible apply cel2 (b := w7.heap.size + 1) hb_w22); (focus ((try simp) <;> omega)); (focus omega); (focus (go_simp; try exact rfl)); (focus (go_simp; try exact rfl)); (focus (intro o; go_simp)); intro cc cc fz hl; (with_reducible apply cel2 (b := w8.heap.size) hb_w22); (focus ((try simp) <;> omega)); (focus omega); (focus (go_simp; try exact rfl)); (focus (go_simp; try exact rfl)); (focus (intro o; go_simp)); intro cc cc fz hl; (with_reducible apply cel2 (b := w9.heap.size) hb_w22); (focus ((try simp) <;> omega)); (focus omega); (focus (go_simp; try exact rfl)); (focus (go_simp; try exact rfl)); (focus (intro o; go_simp)); intro cc cc fz hl; (with_reducible apply cel2 (b := w10.heap.size) hb_w22); (focus ((try simp) <;> omega)); (focus omega); (focus (go_simp; try exact rfl)); (focus (go_simp; try exact rfl)); (focus (intro o; go_simp)); intro cc cc fz hl; (with_reducible apply cel2 (b := w11.heap.size) hb_w22); (focus ((try simp) <;> omega)); (focus omega); (focus (go_simp; try exact rfl)); (focus (go_simp; try exact rfl)); (focus (intro o; go_simp)); intro cc cc fz hl; (with_reducible apply cel2 (b := w12.heap.size) hb_w22); (focus ((try simp) <;> omega)); (focus omega); (focus (go_simp; try exact rfl)); (focus (go_simp; try exact rfl)); (focus (intro o; go_simp)); intro cc cc fz hl; (with_reducible apply cel2 (b := w13.heap.size) hb_w22); (focus ((try simp) <;> omega)); (focus omega); (focus (go_simp; try exact rfl)); (focus (go_simp; try exact rfl)); (focus (intro o; go_simp)); intro cc cc fz hl; (with_reducible apply cel2 (b := w13.heap.size + 1) hb_w22); (focus ((try simp) <;> omega)); (focus omega); (focus (go_simp; try exact rfl)); (focus (go_simp; try exact rfl)); (focus (intro o; go_simp)); intro cc cc fz hl; (with_reducible apply cel2 (b := w14.heap.size) hb_w22); (focus ((try simp) <;> omega)); (focus omega); (focus (go_simp; try exact rfl)); (focus (go_simp; try exact rfl)); (focus (intro o; go_simp)); intro cc cc fz hl; (with_reducible apply cel2 (b := w15.heap.size) hb_w22); (focus ((try simp) <;> omega)); (focus omega); (focus (go_simp; try exact rfl)); (focus (go_simp; try exact rfl)); (focus (intro o; go_simp)); intro cc cc fz hl)
  have HW22 := Lib.hid (show Below w21.heap.size w21 w22 by ((with_reducible (repeat (first | exact bR _ _ | refine bS ?_ ?_ _ | refine bA ?_ ?_ _ | refine bD ?_ | refine bT ?_ (by assumption) ?_ | refine bO (by assumption) ?_ ?_))) <;> (first | omega | (simp; done) | (simp <;> omega))))
  replace HA := Lib.hid (HA.out.below HW22.out)
  replace HB0 := Lib.hid (HB0.out.below HW22.out)
  replace HH1 := Lib.hid (HH1.out.below HW22.out)
  replace HH2 := Lib.hid (HH2.out.below HW22.out)
  have hz22 : w.heap.size ≤ w22.heap.size := by omega
  replace HB := Lib.hid (HB.out.trans (HW22.out.mono (by omega)))
  clear hb_w22 HW22
  clear HH1 HH2
  go_wp2_with fail
  (refine pin_wp (N := _) (Nat.le_refl _) (fun w23 hb_w23 hz_w23 => ?_); (try simp at hz_w23); (with_reducible apply cel2 (b := w.heap.size) hb_w23); (focus ((try simp) <;> omega)); (focus omega); (focus (go_simp; try exact rfl)); (focus (go_simp; try exact rfl)); (focus (intro o; go_simp)); intro cc cc fz hl; (with_reducible apply cel2 (b := w.heap.size + 1) hb_w23); (focus ((try simp) <;> omega)); (focus omega); (focus (go_simp; try exact rfl)); (focus (go_simp; try exact rfl)); (focus (intro o; go_simp)); intro cc cc fz hl; (with_reducible apply cel2 (b := w4.heap.size) hb_w23); (focus ((try simp) <;> omega)); (focus omega); (focus (go_simp; try exact rfl)); (focus (go_simp; try exact rfl)); (focus (intro o; go_simp)); intro cc cc fz hl; (with_reducible apply cel2 (b := w5.heap.size) hb_w23); (focus ((try simp) <;> omega)); (focus omega); (focus (go_simp; try exact rfl)); (focus (go_simp; try exact rfl)); (focus (intro o; go_simp)); intro cc cc fz hl; (with_reducible apply cel2 (b := w6.heap.size) hb_w23); (focus ((try simp) <;> omega)); (focus omega); (focus (go_simp; try exact rfl)); (focus (go_simp; try exact rfl)); (focus (intro o; go_simp)); intro cc cc fz hl; (with_reducible apply cel2 (b := w7.heap.size) hb_w23); (focus ((try simp) <;> omega)); (focus omega); (focus (go_simp; try exact rfl)); (focus (go_simp; try exact rfl)); (focus (intro o; go_simp)); intro cc cc fz hl; (with_reducible apply cel2 (b := w7.heap.size + 1) hb_w23); (focus ((try simp) <;> omega)); (focus omega); (focus (go_simp; try exact rfl)); (focus (go_simp; try exact rfl)); (focus (intro o; go_simp)); intro cc cc fz hl; (with_reducible apply cel2 (b := w8.heap.size) hb_w23); (focus ((try simp) <;> omega)); (focus omega); (focus (go_simp; try exact rfl)); (focus (go_simp; try exact rfl)); (focus (intro o; go_simp)); intro cc cc fz hl; (with_reducible apply cel2 (b := w9.heap.size) hb_w23); (focus ((try simp) <;> omega)); (focus omega); (focus (go_simp; try exact rfl)); (focus (go_simp; try exact rfl)); (focus (intro o; go_simp)); intro cc cc fz hl; (with_reducible apply cel2 (b := w10.heap.size) hb_w23); (focus ((try simp) <;> omega)); (focus omega); (focus (go_simp; try exact rfl)); (focus (go_simp; try exact rfl)); (focus (intro o; go_simp)); intro cc cc fz hl; (with_reducible apply cel2 (b := w11.heap.size) hb_w23); (focus ((try simp) <;> omega)); (focus omega); (focus (go_simp; try exact rfl)); (focus (go_simp; try exact rfl)); (focus (intro o; go_simp)); intro cc cc fz hl; (with_reducible apply cel2 (b := w12.heap.size) hb_w23); (focus ((try simp) <;> omega)); (focus omega); (focus (go_simp; try exact rfl)); (focus (go_simp; try exact rfl)); (focus (intro o; go_simp)); intro cc cc fz hl; (with_reducible apply cel2 (b := w13.heap.size) hb_w23); (focus ((try simp) <;> omega)); (focus omega); (focus (go_simp; try exact rfl)); (focus (go_simp; try exact rfl)); (focus (intro o; go_simp)); intro cc cc fz hl; (with_reducible apply cel2 (b := w13.heap.size + 1) hb_w23); (focus ((try simp) <;> omega)); (focus omega); (focus (go_simp; try exact rfl)); (focus (go_simp; try exact rfl)); (focus (intro o; go_simp)); intro cc cc fz hl; (with_reducible apply cel2 (b := w14.heap.size) hb_w23); (focus ((try simp) <;> omega)); (focus omega); (focus (go_simp; try exact rfl)); (focus (go_simp; try exact rfl)); (focus (intro o; go_simp)); intro cc cc fz hl; (with_reducible apply cel2 (b := w15.heap.size) hb_w23); (focus ((try simp) <;> omega)); (focus omega); (focus (go_simp; try exact rfl)); (focus (go_simp; try exact rfl)); (focus (intro o; go_simp)); intro cc cc fz hl); refine wp_region_float w23.heap.size 22 (Nat.le_refl _) (fun _ => True) trivial Cl.tt (by kernel_rfl) (by simp) ?_
  have HW23 := Lib.hid (show Below w22.heap.size w22 w23 by ((with_reducible (repeat (first | exact bR _ _ | refine bS ?_ ?_ _ | refine bA ?_ ?_ _ | refine bD ?_ | refine bT ?_ (by assumption) ?_ | refine bO (by assumption) ?_ ?_))) <;> (first | omega | (simp; done) | (simp <;> omega))))
  replace HA := Lib.hid (HA.out.below HW23.out)
  replace HB0 := Lib.hid (HB0.out.below HW23.out)
  have hz23 : w.heap.size ≤ w23.heap.size := by omega
  replace HB := Lib.hid (HB.out.trans (HW23.out.mono (by omega)))
  clear hb_w23 HW23
  refine wpI_start [0, 1, 2] ?_; (iterate 3 (first | (refine wpI_off rfl (by kernel_rfl) rfl (fun K hK => ?_); go_simp; refine hK _ ?_; clear hK K) | ((first | apply wpI_step rfl (by kernel_rfl) rfl | apply wpI_on rfl (by kernel_rfl) rfl); (focus (intro W' hS; have hcS := hS.cells.1; have hfS := hS.cells.2; go_simp; (first | done | exact rfl | exact ⟨rfl, Below.refl _ _⟩ | (go_simp; first | done | exact rfl | exact ⟨rfl, Below.refl _ _⟩)))); intro K hK; go_simp; (try go_bits); refine hK _ ?_; clear hK K))); refine wpI_nil ?_
  refine wpI_start [4] ?_; (iterate 1 (first | (refine wpI_off rfl (by kernel_rfl) rfl (fun K hK => ?_); go_simp; refine hK _ ?_; clear hK K) | ((first | apply wpI_step rfl (by kernel_rfl) rfl | apply wpI_on rfl (by kernel_rfl) rfl); (focus (intro W' hS; have hcS := hS.cells.1; have hfS := hS.cells.2; go_simp; (first | done | exact rfl | exact ⟨rfl, Below.refl _ _⟩ | (go_simp; first | done | exact rfl | exact ⟨rfl, Below.refl _ _⟩)))); intro K hK; go_simp; (try go_bits); refine hK _ ?_; clear hK K))); refine wpI_nil ?_
  apply wpF_call_on (i := 3) rfl (by kernel_rfl) (by kernel_rfl) rfl; intro W hF hS; have hcS := hS.1.cells.1; have hfS := hS.1.cells.2; go_simp; (go_at_call 31; refine (itrim_any 100 _ z1 _ (HA.out.below hS.1.2) (by omega)).mono ?_; rintro e w61 ⟨hb_w61, v61, rfl, hv61⟩; refine XPost.mk _ (fun W => IsC W v61 (z1)) hb_w61 (hv61) (IsC.cl _ _) ?_); clear hb_w61 hcS hfS hS hF
  intro K hK; go_simp; (try go_bits); refine hK _ ?_; clear hK K
  clear hv61
  apply wpF_call_on (i := 5) rfl (by kernel_rfl) (by kernel_rfl) rfl; intro W hF hS; have hcS := hS.1.cells.1; have hfS := hS.1.cells.2; go_simp; (go_at_call 40; refine (rtrim_any 100 _ z1 _ (HA.out.below hS.1.2) (by omega)).mono ?_; rintro e w62 ⟨hb_w62, v62, rfl, hv62⟩; refine XPost.mk _ (fun W => IsC W v62 (z1)) hb_w62 (hv62) (IsC.cl _ _) ?_); clear hb_w62 hcS hfS hS hF
  intro K hK; go_simp; (try go_bits); refine hK _ ?_; clear hK K
  clear hv62
  apply wpF_call_on (i := 6) rfl (by kernel_rfl) (by kernel_rfl) rfl; intro W hF hS; have hcS := hS.1.cells.1; have hfS := hS.1.cells.2; go_simp; (go_at_call 39; refine (S8.out _ _ _ hF.1 hF.2).mono ?_; rintro e w63 ⟨rfl, hb_w63⟩; refine XPost.mk _ (fun _ => True) hb_w63 (trivial) (Cl.tt) ?_); clear hb_w63 hcS hfS hS hF
  intro K hK; go_simp; (try go_bits); refine hK _ ?_; clear hK K
  refine wpI_start [7, 8, 9] ?_; (iterate 3 (first | (refine wpI_off rfl (by kernel_rfl) rfl (fun K hK => ?_); go_simp; refine hK _ ?_; clear hK K) | ((first | apply wpI_step rfl (by kernel_rfl) rfl | apply wpI_on rfl (by kernel_rfl) rfl); (focus (intro W' hS; have hcS := hS.cells.1; have hfS := hS.cells.2; go_simp; (first | done | exact rfl | exact ⟨rfl, Below.refl _ _⟩ | (go_simp; first | done | exact rfl | exact ⟨rfl, Below.refl _ _⟩)))); intro K hK; go_simp; (try go_bits); refine hK _ ?_; clear hK K))); refine wpI_nil ?_
  refine wpI_start [11] ?_; (iterate 1 (first | (refine wpI_off rfl (by kernel_rfl) rfl (fun K hK => ?_); go_simp; refine hK _ ?_; clear hK K) | ((first | apply wpI_step rfl (by kernel_rfl) rfl | apply wpI_on rfl (by kernel_rfl) rfl); (focus (intro W' hS; have hcS := hS.cells.1; have hfS := hS.cells.2; go_simp; (first | done | exact rfl | exact ⟨rfl, Below.refl _ _⟩ | (go_simp; first | done | exact rfl | exact ⟨rfl, Below.refl _ _⟩)))); intro K hK; go_simp; (try go_bits); refine hK _ ?_; clear hK K))); refine wpI_nil ?_
  apply wpF_call_on (i := 10) rfl (by kernel_rfl) (by kernel_rfl) rfl; intro W hF hS; have hcS := hS.1.cells.1; have hfS := hS.1.cells.2; go_simp; (go_at_call 28; refine (ineg_any 100 _ z1 _ (HA.out.below hS.1.2) (by omega)).mono ?_; rintro e w64 ⟨hb_w64, v64, rfl, hv64⟩; refine XPost.mk _ (fun W => IsC W v64 (-z1)) hb_w64 (hv64) (IsC.cl _ _) ?_); clear hb_w64 hcS hfS hS hF
  intro K hK; go_simp; (try go_bits); refine hK _ ?_; clear hK K
  clear hv64
  apply wpF_call_on (i := 12) rfl (by kernel_rfl) (by kernel_rfl) rfl; intro W hF hS; have hcS := hS.1.cells.1; have hfS := hS.1.cells.2; go_simp; (go_at_call 41; refine (neg_any 100 _ z1 _ (HA.out.below hS.1.2) (by omega)).mono ?_; rintro e w65 ⟨hb_w65, v65, rfl, hv65⟩; refine XPost.mk _ (fun W => IsC W v65 (-z1)) hb_w65 (hv65) (IsC.cl _ _) ?_); clear hb_w65 hcS hfS hS hF
  intro K hK; go_simp; (try go_bits); refine hK _ ?_; clear hK K
  clear hv65
  apply wpF_call_on (i := 13) rfl (by kernel_rfl) (by kernel_rfl) rfl; intro W hF hS; have hcS := hS.1.cells.1; have hfS := hS.1.cells.2; go_simp; (go_at_call 39; refine (S9.out _ _ _ hF.1.2 hF.2).mono ?_; rintro e w66 ⟨rfl, hb_w66⟩; refine XPost.mk _ (fun _ => True) hb_w66 (trivial) (Cl.tt) ?_); clear hb_w66 hcS hfS hS hF
  intro K hK; go_simp; (try go_bits); refine hK _ ?_; clear hK K
  refine wpI_start [14, 15, 16] ?_; (iterate 3 (first | (refine wpI_off rfl (by kernel_rfl) rfl (fun K hK => ?_); go_simp; refine hK _ ?_; clear hK K) | ((first | apply wpI_step rfl (by kernel_rfl) rfl | apply wpI_on rfl (by kernel_rfl) rfl); (focus (intro W' hS; have hcS := hS.cells.1; have hfS := hS.cells.2; go_simp; (first | done | exact rfl | exact ⟨rfl, Below.refl _ _⟩ | (go_simp; first | done | exact rfl | exact ⟨rfl, Below.refl _ _⟩)))); intro K hK; go_simp; (try go_bits); refine hK _ ?_; clear hK K))); refine wpI_nil ?_
  refine wpI_start [18] ?_; (iterate 1 (first | (refine wpI_off rfl (by kernel_rfl) rfl (fun K hK => ?_); go_simp; refine hK _ ?_; clear hK K) | ((first | apply wpI_step rfl (by kernel_rfl) rfl | apply wpI_on rfl (by kernel_rfl) rfl); (focus (intro W' hS; have hcS := hS.cells.1; have hfS := hS.cells.2; go_simp; (first | done | exact rfl | exact ⟨rfl, Below.refl _ _⟩ | (go_simp; first | done | exact rfl | exact ⟨rfl, Below.refl _ _⟩)))); intro K hK; go_simp; (try go_bits); refine hK _ ?_; clear hK K))); refine wpI_nil ?_
  apply wpF_call_on (i := 17) rfl (by kernel_rfl) (by kernel_rfl) rfl; intro W hF hS; have hcS := hS.1.cells.1; have hfS := hS.1.cells.2; go_simp; (go_at_call 20; refine (iof_any n _ hn0 hn1).mono ?_; rintro e w67 ⟨hb_w67, v67, rfl, hv67⟩; refine XPost.mk _ (fun W => IsC W v67 (n)) hb_w67 (hv67) (IsC.cl _ _) ?_); clear hb_w67 hcS hfS hS hF
  intro K hK; go_simp; (try go_bits); refine hK _ ?_; clear hK K
  clear hv67
  apply wpF_call_on (i := 19) rfl (by kernel_rfl) (by kernel_rfl) rfl; intro W hF hS; have hcS := hS.1.cells.1; have hfS := hS.1.cells.2; go_simp; (go_at_call 42; refine (of_any n _ hn0 hn1).mono ?_; rintro e w68 ⟨hb_w68, v68, rfl, hv68⟩; refine XPost.mk _ (fun W => IsC W v68 (n)) hb_w68 (hv68) (IsC.cl _ _) ?_); clear hb_w68 hcS hfS hS hF
  intro K hK; go_simp; (try go_bits); refine hK _ ?_; clear hK K
  clear hv68
  apply wpF_call_on (i := 20) rfl (by kernel_rfl) (by kernel_rfl) rfl; intro W hF hS; have hcS := hS.1.cells.1; have hfS := hS.1.cells.2; go_simp; (go_at_call 39; refine (S10.out _ _ _ hF.1.2 hF.2).mono ?_; rintro e w69 ⟨rfl, hb_w69⟩; refine XPost.mk _ (fun _ => True) hb_w69 (trivial) (Cl.tt) ?_); clear hb_w69 hcS hfS hS hF
  intro K hK; go_simp; (try go_bits); refine hK _ ?_; clear hK K
  refine wpI_start [21] ?_; (iterate 1 (first | (refine wpI_off rfl (by kernel_rfl) rfl (fun K hK => ?_); go_simp; refine hK _ ?_; clear hK K) | ((first | apply wpI_step rfl (by kernel_rfl) rfl | apply wpI_on rfl (by kernel_rfl) rfl); (focus (intro W' hS; have hcS := hS.cells.1; have hfS := hS.cells.2; go_simp; (first | done | exact rfl | exact ⟨rfl, Below.refl _ _⟩ | (go_simp; first | done | exact rfl | exact ⟨rfl, Below.refl _ _⟩)))); intro K hK; go_simp; (try go_bits); refine hK _ ?_; clear hK K))); refine wpI_nil ?_
  refine wpF_done (by kernel_rfl) ?_
  intro w24 hF_w24 hSG
  have hz_w24 := hSG.1.1
  have hb_w24 := hSG.1.2
  clear hSG
  (with_reducible apply cel2 (b := w.heap.size) hb_w24); (focus ((try simp) <;> omega)); (focus omega); (focus (go_simp; try exact rfl)); (focus (go_simp; try exact rfl)); (focus (intro o; go_simp)); intro cc cc fz hl; (with_reducible apply cel2 (b := w.heap.size + 1) hb_w24); (focus ((try simp) <;> omega)); (focus omega); (focus (go_simp; try exact rfl)); (focus (go_simp; try exact rfl)); (focus (intro o; go_simp)); intro cc cc fz hl; (with_reducible apply cel2 (b := w4.heap.size) hb_w24); (focus ((try simp) <;> omega)); (focus omega); (focus (go_simp; try exact rfl)); (focus (go_simp; try exact rfl)); (focus (intro o; go_simp)); intro cc cc fz hl; (with_reducible apply cel2 (b := w5.heap.size) hb_w24); (focus ((try simp) <;> omega)); (focus omega); (focus (go_simp; try exact rfl)); (focus (go_simp; try exact rfl)); (focus (intro o; go_simp)); intro cc cc fz hl; (with_reducible apply cel2 (b := w6.heap.size) hb_w24); (focus ((try simp) <;> omega)); (focus omega); (focus (go_simp; try exact rfl)); (focus (go_simp; try exact rfl)); (focus (intro o; go_simp)); intro cc cc fz hl; (with_reducible apply cel2 (b := w7.heap.size) hb_w24); (focus ((try simp) <;> omega)); (focus omega); (focus (go_simp; try exact rfl)); (focus (go_simp; try exact rfl)); (focus (intro o; go_simp)); intro cc cc fz hl; (with_reducible apply cel2 (b := w7.heap.size + 1) hb_w24); (focus ((try simp) <;> omega)); (focus omega); (focus (go_simp; try exact rfl)); (focus (go_simp; try exact rfl)); (focus (intro o; go_simp)); intro cc cc fz hl; (with_reducible apply cel2 (b := w8.heap.size) hb_w24); (focus ((try simp) <;> omega)); (focus omega); (focus (go_simp; try exact rfl)); (focus (go_simp; try exact rfl)); (focus (intro o; go_simp)); intro cc cc fz hl; (with_reducible apply cel2 (b := w9.heap.size) hb_w24); (focus ((try simp) <;> omega)); (focus omega); (focus (go_simp; try exact rfl)); (focus (go_simp; try exact rfl)); (focus (intro o; go_simp)); intro cc cc fz hl; (with_reducible apply cel2 (b := w10.heap.size) hb_w24); (focus ((try simp) <;> omega)); (focus omega); (focus (go_simp; try exact rfl)); (focus (go_simp; try exact rfl)); (focus (intro o; go_simp)); intro cc cc fz hl; (with_reducible apply cel2 (b := w11.heap.size) hb_w24); (focus ((try simp) <;> omega)); (focus omega); (focus (go_simp; try exact rfl)); (focus (go_simp; try exact rfl)); (focus (intro o; go_simp)); intro cc cc fz hl; (with_reducible apply cel2 (b := w12.heap.size) hb_w24); (focus ((try simp) <;> omega)); (focus omega); (focus (go_simp; try exact rfl)); (focus (go_simp; try exact rfl)); (focus (intro o; go_simp)); intro cc cc fz hl; (with_reducible apply cel2 (b := w13.heap.size) hb_w24); (focus ((try simp) <;> omega)); (focus omega); (focus (go_simp; try exact rfl)); (focus (go_simp; try exact rfl)); (focus (intro o; go_simp)); intro cc cc fz hl; (with_reducible apply cel2 (b := w13.heap.size + 1) hb_w24); (focus ((try simp) <;> omega)); (focus omega); (focus (go_simp; try exact rfl)); (focus (go_simp; try exact rfl)); (focus (intro o; go_simp)); intro cc cc fz hl; (with_reducible apply cel2 (b := w14.heap.size) hb_w24); (focus ((try simp) <;> omega)); (focus omega); (focus (go_simp; try exact rfl)); (focus (go_simp; try exact rfl)); (focus (intro o; go_simp)); intro cc cc fz hl; (with_reducible apply cel2 (b := w15.heap.size) hb_w24); (focus ((try simp) <;> omega)); (focus omega); (focus (go_simp; try exact rfl)); (focus (go_simp; try exact rfl)); (focus (intro o; go_simp)); intro cc cc fz hl
  (try simp only [List.drop_succ_cons, List.drop_zero])
  clear hF_w24
  have HW24 := Lib.hid (show Below w23.heap.size w23 w24 by exact hb_w24)
  replace HA := Lib.hid (HA.out.below HW24.out)
  replace HB0 := Lib.hid (HB0.out.below HW24.out)
  have hz24 : w.heap.size ≤ w24.heap.size := by omega
  replace HB := Lib.hid (HB.out.trans (HW24.out.mono (by omega)))
  clear hb_w24 HW24
  go_wp2_with fail
  go_wp2_with fail
  (refine pin_wp (N := _) (Nat.le_refl _) (fun w25 hb_w25 hz_w25 => ?_); (try simp at hz_w25); (with_reducible apply cel2 (b := w.heap.size) hb_w25); (focus ((try simp) <;> omega)); (focus omega); (focus (go_simp; try exact rfl)); (focus (go_simp; try exact rfl)); (focus (intro o; go_simp)); intro cc cc fz hl; (with_reducible apply cel2 (b := w.heap.size + 1) hb_w25); (focus ((try simp) <;> omega)); (focus omega); (focus (go_simp; try exact rfl)); (focus (go_simp; try exact rfl)); (focus (intro o; go_simp)); intro cc cc fz hl; (with_reducible apply cel2 (b := w4.heap.size) hb_w25); (focus ((try simp) <;> omega)); (focus omega); (focus (go_simp; try exact rfl)); (focus (go_simp; try exact rfl)); (focus (intro o; go_simp)); intro cc cc fz hl; (with_reducible apply cel2 (b := w5.heap.size) hb_w25); (focus ((try simp) <;> omega)); (focus omega); (focus (go_simp; try exact rfl)); (focus (go_simp; try exact rfl)); (focus (intro o; go_simp)); intro cc cc fz hl; (with_reducible apply cel2 (b := w6.heap.size) hb_w25); (focus ((try simp) <;> omega)); (focus omega); (focus (go_simp; try exact rfl)); (focus (go_simp; try exact rfl)); (focus (intro o; go_simp)); intro cc cc fz hl; (with_reducible apply cel2 (b := w7.heap.size) hb_w25); (focus ((try simp) <;> omega)); (focus omega); (focus (go_simp; try exact rfl)); (focus (go_simp; try exact rfl)); (focus (intro o; go_simp)); intro cc cc fz hl; (with_reducible apply cel2 (b := w7.heap.size + 1) hb_w25); (focus ((try simp) <;> omega)); (focus omega); (focus (go_simp; try exact rfl)); (focus (go_simp; try exact rfl)); (focus (intro o; go_simp)); intro cc cc fz hl; (with_reducible apply cel2 (b := w8.heap.size) hb_w25); (focus ((try simp) <;> omega)); (focus omega); (focus (go_simp; try exact rfl)); (focus (go_simp; try exact rfl)); (focus (intro o; go_simp)); intro cc cc fz hl; (with_reducible apply cel2 (b := w9.heap.size) hb_w25); (focus ((try simp) <;> omega)); (focus omega); (focus (go_simp; try exact rfl)); (focus (go_simp; try exact rfl)); (focus (intro o; go_simp)); intro cc cc fz hl; (with_reducible apply cel2 (b := w10.heap.size) hb_w25); (focus ((try simp) <;> omega)); (focus omega); (focus (go_simp; try exact rfl)); (focus (go_simp; try exact rfl)); (focus (intro o; go_simp)); intro cc cc fz hl; (with_reducible apply cel2 (b := w11.heap.size) hb_w25); (focus ((try simp) <;> omega)); (focus omega); (focus (go_simp; try exact rfl)); (focus (go_simp; try exact rfl)); (focus (intro o; go_simp)); intro cc cc fz hl; (with_reducible apply cel2 (b := w12.heap.size) hb_w25); (focus ((try simp) <;> omega)); (focus omega); (focus (go_simp; try exact rfl)); (focus (go_simp; try exact rfl)); (focus (intro o; go_simp)); intro cc cc fz hl; (with_reducible apply cel2 (b := w13.heap.size) hb_w25); (focus ((try simp) <;> omega)); (focus omega); (focus (go_simp; try exact rfl)); (focus (go_simp; try exact rfl)); (focus (intro o; go_simp)); intro cc cc fz hl; (with_reducible apply cel2 (b := w13.heap.size + 1) hb_w25); (focus ((try simp) <;> omega)); (focus omega); (focus (go_simp; try exact rfl)); (focus (go_simp; try exact rfl)); (focus (intro o; go_simp)); intro cc cc fz hl; (with_reducible apply cel2 (b := w14.heap.size) hb_w25); (focus ((try simp) <;> omega)); (focus omega); (focus (go_simp; try exact rfl)); (focus (go_simp; try exact rfl)); (focus (intro o; go_simp)); intro cc cc fz hl; (with_reducible apply cel2 (b := w15.heap.size) hb_w25); (focus ((try simp) <;> omega)); (focus omega); (focus (go_simp; try exact rfl)); (focus (go_simp; try exact rfl)); (focus (intro o; go_simp)); intro cc cc fz hl); refine wp_region_float w25.heap.size 24 (Nat.le_refl _) (fun _ => True) trivial Cl.tt (by kernel_rfl) (by simp) ?_
  have HW25 := Lib.hid (show Below w24.heap.size w24 w25 by ((with_reducible (repeat (first | exact bR _ _ | refine bS ?_ ?_ _ | refine bA ?_ ?_ _ | refine bD ?_ | refine bT ?_ (by assumption) ?_ | refine bO (by assumption) ?_ ?_))) <;> (first | omega | (simp; done) | (simp <;> omega))))
  replace HA := Lib.hid (HA.out.below HW25.out)
  replace HB0 := Lib.hid (HB0.out.below HW25.out)
  have hz25 : w.heap.size ≤ w25.heap.size := by omega
  replace HB := Lib.hid (HB.out.trans (HW25.out.mono (by omega)))
  clear hb_w25 HW25
  refine wpI_start [0, 1, 2, 3, 4, 5, 6, 7, 8, 9, 10, 11, 12, 13, 14, 15, 16, 17, 18, 19, 20, 21, 22, 23] ?_; (iterate 24 (first | (refine wpI_off rfl (by kernel_rfl) rfl (fun K hK => ?_); go_simp; refine hK _ ?_; clear hK K) | ((first | apply wpI_step rfl (by kernel_rfl) rfl | apply wpI_on rfl (by kernel_rfl) rfl); (focus (intro W' hS; have hcS := hS.cells.1; have hfS := hS.cells.2; go_simp; (first | done | exact rfl | exact ⟨rfl, Below.refl _ _⟩ | (go_at_call 21; exact (T1.out _ _ (HA.out.below hS.2)).mono (fun _ _ h => ⟨h.1, h.2⟩)) | (go_at_call 43; exact (T2.out _ _ (HA.out.below hS.2)).mono (fun _ _ h => ⟨h.1, h.2⟩)) | (go_at_call 32; exact (T3.out _ _ (HA.out.below hS.2)).mono (fun _ _ h => ⟨h.1, h.2⟩)) | (go_at_call 44; exact (T4.out _ _ (HA.out.below hS.2)).mono (fun _ _ h => ⟨h.1, h.2⟩)) | (go_at_call 17; exact (T5.out _ _ _ (HA.out.below hS.2) (HB0.out.below hS.2)).mono (fun _ _ h => ⟨h.1, h.2⟩)) | (go_at_call 45; exact (T6.out _ _ _ (HA.out.below hS.2) (HB0.out.below hS.2)).mono (fun _ _ h => ⟨h.1, h.2⟩)) | (go_simp; first | done | exact rfl | exact ⟨rfl, Below.refl _ _⟩)))); intro K hK; go_simp; (try go_bits); refine hK _ ?_; clear hK K))); refine wpI_nil ?_
  refine wpF_done (by kernel_rfl) ?_
  intro w26 hF_w26 hSG
  have hz_w26 := hSG.1.1
  have hb_w26 := hSG.1.2
  clear hSG
  (with_reducible apply cel2 (b := w.heap.size) hb_w26); (focus ((try simp) <;> omega)); (focus omega); (focus (go_simp; try exact rfl)); (focus (go_simp; try exact rfl)); (focus (intro o; go_simp)); intro cc cc fz hl; (with_reducible apply cel2 (b := w.heap.size + 1) hb_w26); (focus ((try simp) <;> omega)); (focus omega); (focus (go_simp; try exact rfl)); (focus (go_simp; try exact rfl)); (focus (intro o; go_simp)); intro cc cc fz hl; (with_reducible apply cel2 (b := w4.heap.size) hb_w26); (focus ((try simp) <;> omega)); (focus omega); (focus (go_simp; try exact rfl)); (focus (go_simp; try exact rfl)); (focus (intro o; go_simp)); intro cc cc fz hl; (with_reducible apply cel2 (b := w5.heap.size) hb_w26); (focus ((try simp) <;> omega)); (focus omega); (focus (go_simp; try exact rfl)); (focus (go_simp; try exact rfl)); (focus (intro o; go_simp)); intro cc cc fz hl; (with_reducible apply cel2 (b := w6.heap.size) hb_w26); (focus ((try simp) <;> omega)); (focus omega); (focus (go_simp; try exact rfl)); (focus (go_simp; try exact rfl)); (focus (intro o; go_simp)); intro cc cc fz hl; (with_reducible apply cel2 (b := w7.heap.size) hb_w26); (focus ((try simp) <;> omega)); (focus omega); (focus (go_simp; try exact rfl)); (focus (go_simp; try exact rfl)); (focus (intro o; go_simp)); intro cc cc fz hl; (with_reducible apply cel2 (b := w7.heap.size + 1) hb_w26); (focus ((try simp) <;> omega)); (focus omega); (focus (go_simp; try exact rfl)); (focus (go_simp; try exact rfl)); (focus (intro o; go_simp)); intro cc cc fz hl; (with_reducible apply cel2 (b := w8.heap.size) hb_w26); (focus ((try simp) <;> omega)); (focus omega); (focus (go_simp; try exact rfl)); (focus (go_simp; try exact rfl)); (focus (intro o; go_simp)); intro cc cc fz hl; (with_reducible apply cel2 (b := w9.heap.size) hb_w26); (focus ((try simp) <;> omega)); (focus omega); (focus (go_simp; try exact rfl)); (focus (go_simp; try exact rfl)); (focus (intro o; go_simp)); intro cc cc fz hl; (with_reducible apply cel2 (b := w10.heap.size) hb_w26); (focus ((try simp) <;> omega)); (focus omega); (focus (go_simp; try exact rfl)); (focus (go_simp; try exact rfl)); (focus (intro o; go_simp)); intro cc cc fz hl; (with_reducible apply cel2 (b := w11.heap.size) hb_w26); (focus ((try simp) <;> omega)); (focus omega); (focus (go_simp; try exact rfl)); (focus (go_simp; try exact rfl)); (focus (intro o; go_simp)); intro cc cc fz hl; (with_reducible apply cel2 (b := w12.heap.size) hb_w26); (focus ((try simp) <;> omega)); (focus omega); (focus (go_simp; try exact rfl)); (focus (go_simp; try exact rfl)); (focus (intro o; go_simp)); intro cc cc fz hl; (with_reducible apply cel2 (b := w13.heap.size) hb_w26); (focus ((try simp) <;> omega)); (focus omega); (focus (go_simp; try exact rfl)); (focus (go_simp; try exact rfl)); (focus (intro o; go_simp)); intro cc cc fz hl; (with_reducible apply cel2 (b := w13.heap.size + 1) hb_w26); (focus ((try simp) <;> omega)); (focus omega); (focus (go_simp; try exact rfl)); (focus (go_simp; try exact rfl)); (focus (intro o; go_simp)); intro cc cc fz hl; (with_reducible apply cel2 (b := w14.heap.size) hb_w26); (focus ((try simp) <;> omega)); (focus omega); (focus (go_simp; try exact rfl)); (focus (go_simp; try exact rfl)); (focus (intro o; go_simp)); intro cc cc fz hl; (with_reducible apply cel2 (b := w15.heap.size) hb_w26); (focus ((try simp) <;> omega)); (focus omega); (focus (go_simp; try exact rfl)); (focus (go_simp; try exact rfl)); (focus (intro o; go_simp)); intro cc cc fz hl
  (try simp only [List.drop_succ_cons, List.drop_zero])
  have HW26 := Lib.hid (show Below w25.heap.size w25 w26 by exact hb_w26)
  replace HA := Lib.hid (HA.out.below HW26.out)
  replace HB0 := Lib.hid (HB0.out.below HW26.out)
  have hz26 : w.heap.size ≤ w26.heap.size := by omega
  replace HB := Lib.hid (HB.out.trans (HW26.out.mono (by omega)))
  clear hb_w26 HW26
  go_wp2_with fail
  go_ret
  refine ⟨ret_bool (by first | rfl | simp | (simp; omega)), HB.out⟩

theorem walk (w : World) (a0 : Array Value) (n0 : Nat) (w0 : RowIs Try.prog w n0 24 a0.toList) (a1 : Array Value) (n1 : Nat) (w1 : RowIs Try.prog w n1 24 a1.toList) (n : Int) (hn : (Lit.int .i64 n).wf = true) :
    Calls Try.prog 9 #[.agg a0, .agg a1, .int .i64 n] w fun e w' => e = .returned (.bool true) ∧ Below w.heap.size w w' := by
  obtain ⟨p, A, len, cap, z, e, hml, hA⟩ := int_open w0
  obtain ⟨p2, A2, len2, cap2, z2, e2, hml2, hA2⟩ := int_open w1
  obtain ⟨hn0, hn1⟩ := wf_bd hn
  obtain ⟨l⟩ := a0
  obtain ⟨l2⟩ := a1
  simp only at e e2
  subst e e2
  by_cases h : len ≤ 40 ∧ len2 ≤ 40 ∧ n ≤ 4000
  · exact short p p2 A A2 len len2 cap cap2 z z2 n w h.1 h.2.1 h.2.2 hn0 hn1 (hA.upto h.1) (hA2.upto h.2.1)
  · exact long p p2 A A2 len len2 cap cap2 n w h hml hml2
theorem own : ownKnob Try.prog.godebug = none := by kernel_rfl
theorem laidOut : laidOutB Try.prog = true := by kernel_rfl
set_option maxRecDepth 100000 in
theorem lifted (os : Os) (started : os.Started) (H : Type) (enc : TypeId × Value → H) :
    ReturnsInHanded {} Try.checked os 9 .any (Rows.integerExactSpec.pre6 enc Try.prog Try.f9 Rows.integerExactRow.domain false) (Rows.integerExactSpec.post enc Try.prog Try.f9 false true false false) := by
  refine returnsInHanded_of_change (C := Try.checked) own started (by kernel_rfl) Try.func9
    (ChangeSpec.witness6 (enc := enc) (C := Try.checked) false ⟨#[], #[.agg #[.bool false, .slice none 0 0], .agg #[.bool false, .slice none 0 0], .int .i64 0], []⟩ 8 (by kernel_rfl) (by kernel_rfl) (by kernel_rfl) (by kernel_rfl)) ?_
  intro W base args ds gs before hval0 hW hcnd _
  have hval : ∀ (j : Nat) t v, Try.f9.params[j]? = some t → args[j]? = some v → Value.okWide Try.prog W .any base t v := hval0
  have hW' := hW
  obtain ⟨p, q, hA0, hV, rfl, hfz, hnd⟩ := hW
  have hA : DataW.TrodAll enc Try.prog W 0 (fun _ => true) true Try.f9.params.toList args.toList ds p := hA0
  rw [Try.params9] at hA hval
  obtain ⟨v0, vs0, d0, ds0, p0, q0, hargs, rfl, rfl, h0, r0⟩ := trodAll_cons hA
  obtain ⟨v1, vs1, d1, ds1, p1, q1, rfl, rfl, rfl, h1, r1⟩ := trodAll_cons r0
  obtain ⟨v2, vs2, d2, ds2, p2, q2, rfl, rfl, rfl, h2, r2⟩ := trodAll_cons r1
  obtain ⟨rfl, rfl, rfl⟩ := trodAll_nil r2
  obtain rfl : args = #[v0, v1, v2] := by cases args; simp_all
  obtain ⟨rfl, rfl⟩ := trodVars_none hV
  obtain ⟨a0, rfl, hs0⟩ := okWide_struct Try.underlying24 (hval 0 24 v0 rfl rfl)
  have k0 := h0
  have lt0 : ∀ x ∈ p0, x.block < W.heap.size := by obtain ⟨m, hm⟩ := k0; exact DataW.trod_lt m _ _ _ hm
  obtain ⟨n0, w0⟩ : ∃ n, RowIs Try.prog W n 24 a0.toList := by obtain ⟨fuel, hf⟩ := h0; exact ⟨fuel, rowIs_of_trod fuel _ _ _ hf⟩
  obtain ⟨a1, rfl, hs1⟩ := okWide_struct Try.underlying24 (hval 1 24 v1 rfl rfl)
  have k1 := h1
  have lt1 : ∀ x ∈ p1, x.block < W.heap.size := by obtain ⟨m, hm⟩ := k1; exact DataW.trod_lt m _ _ _ hm
  obtain ⟨n1, w1⟩ : ∃ n, RowIs Try.prog W n 24 a1.toList := by obtain ⟨fuel, hf⟩ := h1; exact ⟨fuel, rowIs_of_trod fuel _ _ _ hf⟩
  obtain ⟨a2, rfl, rfl, rfl, w2⟩ := open_int Try.underlying3 (hval 2 3 v2 rfl rfl) h2
  clear hA0 hval0
  refine (walk W a0 n0 w0 a1 n1 w1 a2 w2).mono fun e W' ⟨he, bel⟩ => ?_
  subst he
  exact ⟨_, rfl, _, _, _, [], _, [], hW', trodAll_mk1 (shut_bool Try.underlying4 _), (trodAll_cons_mk (Below.trod laidOut (by kernel_rfl) (of_decide_eq_true (by kernel_rfl)) k0 bel lt0) (trodAll_cons_mk (Below.trod laidOut (by kernel_rfl) (of_decide_eq_true (by kernel_rfl)) k1 bel lt1) (trodAll_cons_mk (shut_int Try.underlying3 w2) trodAll_mk0))), rfl, bel.frame _, fun h => by cases h⟩

theorem over : Rows.integerExactRow.holds Try.pinned (OpenSpec.ofChange Rows.integerExactSpec) :=
  OpenClaim.holds_of_wide 9 Try.f9 rfl rfl rfl rfl rfl rfl rfl ⟨rfl, rfl, rfl, rfl, rfl⟩ rfl rfl rfl rfl rfl (by kernel_rfl) Try.func9 (by kernel_rfl)
    (of_decide_eq_true (by kernel_rfl)) (by unfold Func.isWrapper; first | (rw [if_pos (by decide +kernel)]; kernel_rfl) | (rw [if_neg (by decide +kernel)]; exact ⟨rfl, rfl⟩))
    (fun os started H enc _ => lifted os started H enc)

theorem proved : Rows.IntegerExactSaid := over
#print axioms proved
end Go.Proofs.Ytadkcipjcmkoiaa.lawIE
