/- The contracts of integer.Of, Trim, Neg, Sign, Bits, Cmp, Add, Sub, Mul. -/
import Derived.Test.YtadkcipjcmkoiaaIa
namespace Go.Proofs.Ytadkcipjcmkoiaa
open Go Go.RowKit
set_option linter.unusedVariables false
theorem len_add {a b : Int} {n : Nat} (ha : (canN a.natAbs).length ≤ n) (hb : (canN b.natAbs).length ≤ n) : (canN (a + b).natAbs).length ≤ n + 1 := by
  have h1 := canN_len.1 ha
  have h2 := canN_len.1 hb
  refine canN_len.2 ?_
  rw [PB_succ]
  have := PB_pos n
  omega
theorem len_sub {a b : Int} {n : Nat} (ha : (canN a.natAbs).length ≤ n) (hb : (canN b.natAbs).length ≤ n) : (canN (a - b).natAbs).length ≤ n + 1 := by
  rw [Int.sub_eq_add_neg]
  exact len_add ha (by rw [Int.natAbs_neg]; exact hb)
theorem len_mul {a b : Int} {n m : Nat} (ha : (canN a.natAbs).length ≤ n) (hb : (canN b.natAbs).length ≤ m) : (canN (a * b).natAbs).length ≤ n + m := by
  have h1 := canN_len.1 ha
  have h2 := canN_len.1 hb
  refine canN_len.2 ?_
  rw [Int.natAbs_mul, PB_add, Int.natCast_mul]
  exact Int.mul_lt_mul' (Int.le_of_lt h1) h2 (by omega) (PB_pos n)
theorem EOut.isC {z er : Int} {w w' : World} {e : Ending} (h : EOut z er w e w') : Below w.heap.size w w' ∧ ∃ v, e = .returned (.tuple #[v, .int .i64 er]) ∧ IsC w' v z := by
  obtain ⟨hb, A, c, h1, h2, h3⟩ := h
  exact ⟨hb, _, h1, A, c, rfl, h2, h3⟩
set_option maxHeartbeats 1000000 in
theorem iof_any (n : Int) (w : World) (h1 : -9223372036854775808 ≤ n) (h2 : n ≤ 9223372036854775807) :
    Calls Try.prog 20 #[.int .i64 n] w (ZOut n w) := by
  go_enter Try.func20, Try.ntmps20; (try simp only [List.append_eq, List.cons_append, List.nil_append])
  go_wp2_with fail
  -- own blocks: w.heap.size:2
  (go_at_call 60; refine (wof_any n _ h1 h2).mono ?_; rintro e w1 ⟨hb_w1, v1, rfl, A1, c1, rfl, hc1, hA1⟩; have hz_w1 := hb_w1.size; (try simp at hz_w1); (with_reducible apply cel2 (b := w.heap.size) hb_w1); (focus ((try simp) <;> omega)); (focus omega); (focus (go_simp; try exact rfl)); (focus (go_simp; try exact rfl)); (focus (intro o; go_simp)); intro cc cc fz hl)
  have HC := Lib.hid hc1
  have HA1 := Lib.hid hA1
  clear hc1 hA1
  go_wp2_with fail
  refine bodyPost_ret (v := .agg #[.bool (decide (n < 0)), .slice A1 (canN n.natAbs).length c1]) (by simp only [results, Try.results20]; go_simp) rfl ⟨?_, ?_⟩
  · ((with_reducible (repeat (first | exact bR _ _ | refine bS ?_ ?_ _ | refine bA ?_ ?_ _ | refine bD ?_ | refine bT ?_ (by assumption) ?_ | refine bO (by assumption) ?_ ?_))) <;> (first | omega | (simp; done) | (simp <;> omega)))
  · exact ⟨_, rfl, A1, c1, rfl, HC.out, HA1.out.set2 (by assumption) (by assumption) _ _⟩
set_option maxHeartbeats 1000000 in
theorem itrim_any (n : Nat) (v : Value) (z : Int) (w : World) (h : IsZ w v n z) (hn : n ≤ 1000000) :
    Calls Try.prog 31 #[v] w (ZOut (z) w) := by
  have H := Lib.hid h
  obtain ⟨p, A, c, l, rfl⟩ := isZ_val h
  clear h
  go_enter Try.func31, Try.ntmps31; (try simp only [List.append_eq, List.cons_append, List.nil_append])
  go_wp2_with fail
  -- own blocks: w.heap.size:2, w.heap.size + 1:2
  (go_at_call 65; refine (wtrim_any n _ z _ (H.out.below (by ((with_reducible (repeat (first | exact bR _ _ | refine bS ?_ ?_ _ | refine bA ?_ ?_ _ | refine bD ?_ | refine bT ?_ (by assumption) ?_ | refine bO (by assumption) ?_ ?_))) <;> (first | omega | (simp; done) | (simp <;> omega))))) hn).mono ?_; rintro e w1 ⟨hb_w1, v1, rfl, A1, c1, rfl, hc1, hA1⟩; have hz_w1 := hb_w1.size; (try simp at hz_w1); (with_reducible apply cel2 (b := w.heap.size) hb_w1); (focus ((try simp) <;> omega)); (focus omega); (focus (go_simp; try exact rfl)); (focus (go_simp; try exact rfl)); (focus (intro o; go_simp)); intro cc cc fz hl; (with_reducible apply cel2 (b := w.heap.size + 1) hb_w1); (focus ((try simp) <;> omega)); (focus omega); (focus (go_simp; try exact rfl)); (focus (go_simp; try exact rfl)); (focus (intro o; go_simp)); intro cc cc fz hl)
  have HC := Lib.hid hc1
  have HA1 := Lib.hid hA1
  clear hc1 hA1
  go_wp2_with fail
  refine bodyPost_ret (v := .agg #[.bool (decide (z < 0)), .slice A1 (canN (z).natAbs).length c1]) (by simp only [results, Try.results31]; go_simp) rfl ⟨?_, ?_⟩
  · ((with_reducible (repeat (first | exact bR _ _ | refine bS ?_ ?_ _ | refine bA ?_ ?_ _ | refine bD ?_ | refine bT ?_ (by assumption) ?_ | refine bO (by assumption) ?_ ?_))) <;> (first | omega | (simp; done) | (simp <;> omega)))
  · exact ⟨_, rfl, A1, c1, rfl, HC.out, HA1.out.set2 (by assumption) (by assumption) _ _⟩
set_option maxHeartbeats 1000000 in
theorem ineg_any (n : Nat) (v : Value) (z : Int) (w : World) (h : IsZ w v n z) (hn : n ≤ 1000000) :
    Calls Try.prog 28 #[v] w (ZOut (-z) w) := by
  have H := Lib.hid h
  obtain ⟨p, A, c, l, rfl⟩ := isZ_val h
  clear h
  go_enter Try.func28, Try.ntmps28; (try simp only [List.append_eq, List.cons_append, List.nil_append])
  go_wp2_with fail
  -- own blocks: w.heap.size:2, w.heap.size + 1:2
  (go_at_call 47; refine (wneg_any n _ z _ (H.out.below (by ((with_reducible (repeat (first | exact bR _ _ | refine bS ?_ ?_ _ | refine bA ?_ ?_ _ | refine bD ?_ | refine bT ?_ (by assumption) ?_ | refine bO (by assumption) ?_ ?_))) <;> (first | omega | (simp; done) | (simp <;> omega))))) hn).mono ?_; rintro e w1 ⟨hb_w1, v1, rfl, A1, c1, rfl, hc1, hA1⟩; have hz_w1 := hb_w1.size; (try simp at hz_w1); (with_reducible apply cel2 (b := w.heap.size) hb_w1); (focus ((try simp) <;> omega)); (focus omega); (focus (go_simp; try exact rfl)); (focus (go_simp; try exact rfl)); (focus (intro o; go_simp)); intro cc cc fz hl; (with_reducible apply cel2 (b := w.heap.size + 1) hb_w1); (focus ((try simp) <;> omega)); (focus omega); (focus (go_simp; try exact rfl)); (focus (go_simp; try exact rfl)); (focus (intro o; go_simp)); intro cc cc fz hl)
  have HC := Lib.hid hc1
  have HA1 := Lib.hid hA1
  clear hc1 hA1
  go_wp2_with fail
  refine bodyPost_ret (v := .agg #[.bool (decide (-z < 0)), .slice A1 (canN (-z).natAbs).length c1]) (by simp only [results, Try.results28]; go_simp) rfl ⟨?_, ?_⟩
  · ((with_reducible (repeat (first | exact bR _ _ | refine bS ?_ ?_ _ | refine bA ?_ ?_ _ | refine bD ?_ | refine bT ?_ (by assumption) ?_ | refine bO (by assumption) ?_ ?_))) <;> (first | omega | (simp; done) | (simp <;> omega)))
  · exact ⟨_, rfl, A1, c1, rfl, HC.out, HA1.out.set2 (by assumption) (by assumption) _ _⟩
set_option maxHeartbeats 1000000 in
theorem isign_any (n : Nat) (v : Value) (z : Int) (w : World) (h : IsZ w v n z) (hn : n ≤ 1000000) :
    Calls Try.prog 21 #[v] w fun e w' => e = .returned (.int .i64 (sgn z)) ∧ Below w.heap.size w w' := by
  have H := Lib.hid h
  obtain ⟨p, A, c, l, rfl⟩ := isZ_val h
  clear h
  go_enter Try.func21, Try.ntmps21; (try simp only [List.append_eq, List.cons_append, List.nil_append])
  go_wp2_with fail
  -- own blocks: w.heap.size:2
  (go_at_call 56; refine (wsign_any n _ z _ (H.out.below (by ((with_reducible (repeat (first | exact bR _ _ | refine bS ?_ ?_ _ | refine bA ?_ ?_ _ | refine bD ?_ | refine bT ?_ (by assumption) ?_ | refine bO (by assumption) ?_ ?_))) <;> (first | omega | (simp; done) | (simp <;> omega))))) hn).mono ?_; rintro e w1 ⟨rfl, hb_w1⟩; have hz_w1 := hb_w1.size; (try simp at hz_w1); (with_reducible apply cel2 (b := w.heap.size) hb_w1); (focus ((try simp) <;> omega)); (focus omega); (focus (go_simp; try exact rfl)); (focus (go_simp; try exact rfl)); (focus (intro o; go_simp)); intro cc cc fz hl)
  go_wp2_with fail
  go_ret
  exact ⟨rfl, by ((with_reducible (repeat (first | exact bR _ _ | refine bS ?_ ?_ _ | refine bA ?_ ?_ _ | refine bD ?_ | refine bT ?_ (by assumption) ?_ | refine bO (by assumption) ?_ ?_))) <;> (first | omega | (simp; done) | (simp <;> omega)))⟩
set_option maxHeartbeats 1000000 in
theorem ibits_any (n : Nat) (v : Value) (z : Int) (w : World) (h : IsZ w v n z) (hn : n ≤ 400000) :
    Calls Try.prog 32 #[v] w fun e w' => e = .returned (.int .i64 (bitN z.natAbs)) ∧ Below w.heap.size w w' := by
  have H := Lib.hid h
  obtain ⟨p, A, c, l, rfl⟩ := isZ_val h
  clear h
  go_enter Try.func32, Try.ntmps32; (try simp only [List.append_eq, List.cons_append, List.nil_append])
  go_wp2_with fail
  -- own blocks: w.heap.size:2
  (go_at_call 66; refine (wbits_any n _ z _ (H.out.below (by ((with_reducible (repeat (first | exact bR _ _ | refine bS ?_ ?_ _ | refine bA ?_ ?_ _ | refine bD ?_ | refine bT ?_ (by assumption) ?_ | refine bO (by assumption) ?_ ?_))) <;> (first | omega | (simp; done) | (simp <;> omega))))) hn).mono ?_; rintro e w1 ⟨rfl, hb_w1⟩; have hz_w1 := hb_w1.size; (try simp at hz_w1); (with_reducible apply cel2 (b := w.heap.size) hb_w1); (focus ((try simp) <;> omega)); (focus omega); (focus (go_simp; try exact rfl)); (focus (go_simp; try exact rfl)); (focus (intro o; go_simp)); intro cc cc fz hl)
  go_wp2_with fail
  go_ret
  exact ⟨rfl, by ((with_reducible (repeat (first | exact bR _ _ | refine bS ?_ ?_ _ | refine bA ?_ ?_ _ | refine bD ?_ | refine bT ?_ (by assumption) ?_ | refine bO (by assumption) ?_ ?_))) <;> (first | omega | (simp; done) | (simp <;> omega)))⟩
set_option maxHeartbeats 1000000 in
theorem icmp_any (n : Nat) (u v : Value) (a b : Int) (w : World) (ha : IsZ w u n a) (hb : IsZ w v n b) (hn : n ≤ 400000) :
    Calls Try.prog 17 #[u, v] w fun e w' => e = .returned (.int .i64 (cmpI a b)) ∧ Below w.heap.size w w' := by
  have HA := Lib.hid ha
  have HB := Lib.hid hb
  obtain ⟨p, A, c, l, rfl⟩ := isZ_val ha
  obtain ⟨p', A', c', l', rfl⟩ := isZ_val hb
  clear ha hb
  go_enter Try.func17, Try.ntmps17; (try simp only [List.append_eq, List.cons_append, List.nil_append])
  go_wp2_with fail
  -- own blocks: w.heap.size:2, w.heap.size + 1:2
  have HB0 := Lib.hid (show Below w.heap.size w ((w.alloc (.cells #[.bool p, .slice A l c] 24)).alloc (.cells #[.bool p', .slice A' l' c'] 24)) by ((with_reducible (repeat (first | exact bR _ _ | refine bS ?_ ?_ _ | refine bA ?_ ?_ _ | refine bD ?_ | refine bT ?_ (by assumption) ?_ | refine bO (by assumption) ?_ ?_))) <;> (first | omega | (simp; done) | (simp <;> omega))))
  (go_at_call 55; refine (wcmp_any n _ _ a b _ (HA.out.below HB0.out) (HB.out.below HB0.out) hn).mono ?_; rintro e w1 ⟨rfl, hb_w1⟩; have hz_w1 := hb_w1.size; (try simp at hz_w1); (with_reducible apply cel2 (b := w.heap.size) hb_w1); (focus ((try simp) <;> omega)); (focus omega); (focus (go_simp; try exact rfl)); (focus (go_simp; try exact rfl)); (focus (intro o; go_simp)); intro cc cc fz hl; (with_reducible apply cel2 (b := w.heap.size + 1) hb_w1); (focus ((try simp) <;> omega)); (focus omega); (focus (go_simp; try exact rfl)); (focus (go_simp; try exact rfl)); (focus (intro o; go_simp)); intro cc cc fz hl)
  go_wp2_with fail
  go_ret
  exact ⟨rfl, by ((with_reducible (repeat (first | exact bR _ _ | refine bS ?_ ?_ _ | refine bA ?_ ?_ _ | refine bD ?_ | refine bT ?_ (by assumption) ?_ | refine bO (by assumption) ?_ ?_))) <;> (first | omega | (simp; done) | (simp <;> omega)))⟩
def addR (a b : Int) : Int × Int := if lgB a || lgB b then (0, 2) else sizedR (a + b)
set_option maxHeartbeats 2000000 in
theorem iadd_any (n : Nat) (u v : Value) (a b : Int) (w : World) (ha : IsZ w u n a) (hb : IsZ w v n b) (hn : n ≤ 100000) :
    Calls Try.prog 24 #[u, v] w (EOut (addR a b).1 (addR a b).2 w) := by
  have HA := Lib.hid ha
  have HB := Lib.hid hb
  have hlen := len_add (isZ_len ha) (isZ_len hb)
  obtain ⟨p, A, c, l, rfl⟩ := isZ_val ha
  obtain ⟨p', A', c', l', rfl⟩ := isZ_val hb
  obtain ⟨q, hq⟩ : ∃ q, q = (lgB a || lgB b) := ⟨_, rfl⟩
  have hlo := fun g w' hg h0 h1 h2 h3 (hbb : Below w.heap.size w w') => large_two n g (.bool p) (.slice A l c) (.bool p') (.slice A' l' c') a b w' hg h0 h1 h2 h3 (HA.out.below hbb) (HB.out.below hbb) (by omega)
  rw [← hq] at hlo
  have HLO := Lib.hid hlo
  clear ha hb hlo
  cases hqq : q
  · obtain ⟨Z, hZ⟩ : ∃ Z, Z = a + b := ⟨_, rfl⟩
    have e : addR a b = sizedR Z := by unfold addR; rw [← hq, hqq, hZ]; rfl
    rw [← hZ] at hlen
    have hop := fun w' (hbb : Below w.heap.size w w') => wadd_any n _ _ a b w' (HA.out.below hbb) (HB.out.below hbb) (by omega)
    rw [← hZ] at hop
    have hsz := fun v w' h => sized_any (n + 1) v Z w' h hlen (by omega)
    rw [e]
    obtain ⟨r1, r2, hr⟩ : ∃ r1 r2, sizedR Z = (r1, r2) := ⟨_, _, rfl⟩
    rw [hr] at hsz ⊢
    have HOP := Lib.hid hop
    have HSZ := Lib.hid hsz
    subst hqq
    clear hq e hop hsz hr hZ hlen
    go_enter Try.func24, Try.ntmps24; (try simp only [List.append_eq, List.cons_append, List.nil_append])
    go_wp2_with fail
    -- own blocks: w.heap.size:2, w.heap.size + 1:2, w.heap.size + 1 + 1:2
    (go_at_call 51; refine (HLO.out _ _ (by simp) (by go_simp) (by go_simp) (by go_simp) (by go_simp) (by ((with_reducible (repeat (first | exact bR _ _ | refine bS ?_ ?_ _ | refine bA ?_ ?_ _ | refine bD ?_ | refine bT ?_ (by assumption) ?_ | refine bO (by assumption) ?_ ?_))) <;> (first | omega | (simp; done) | (simp <;> omega))))).mono ?_; rintro e w1 ⟨rfl, hb_w1⟩; have hz_w1 := hb_w1.size; (try simp at hz_w1); (with_reducible apply cel2 (b := w.heap.size) hb_w1); (focus ((try simp) <;> omega)); (focus omega); (focus (go_simp; try exact rfl)); (focus (go_simp; try exact rfl)); (focus (intro o; go_simp)); intro cc cc fz hl; (with_reducible apply cel2 (b := w.heap.size + 1) hb_w1); (focus ((try simp) <;> omega)); (focus omega); (focus (go_simp; try exact rfl)); (focus (go_simp; try exact rfl)); (focus (intro o; go_simp)); intro cc cc fz hl; (with_reducible apply cel2 (b := w.heap.size + 1 + 1) hb_w1); (focus ((try simp) <;> omega)); (focus omega); (focus (go_simp; try exact rfl)); (focus (go_simp; try exact rfl)); (focus (intro o; go_simp)); intro cc cc fz hl)
    have HB1 := Lib.hid (show Below w.heap.size w w1 by ((with_reducible (repeat (first | exact bR _ _ | refine bS ?_ ?_ _ | refine bA ?_ ?_ _ | refine bD ?_ | refine bT ?_ (by assumption) ?_ | refine bO (by assumption) ?_ ?_))) <;> (first | omega | (simp; done) | (simp <;> omega))))
    go_wp2_with fail
    (go_at_call 63; refine (HOP.out _ HB1.out).mono ?_; rintro e w2 ⟨hb_w2, v2, rfl, hv2⟩; have hz_w2 := hb_w2.size; (try simp at hz_w2); (with_reducible apply cel2 (b := w.heap.size) hb_w2); (focus ((try simp) <;> omega)); (focus omega); (focus (go_simp; try exact rfl)); (focus (go_simp; try exact rfl)); (focus (intro o; go_simp)); intro cc cc fz hl; (with_reducible apply cel2 (b := w.heap.size + 1) hb_w2); (focus ((try simp) <;> omega)); (focus omega); (focus (go_simp; try exact rfl)); (focus (go_simp; try exact rfl)); (focus (intro o; go_simp)); intro cc cc fz hl; (with_reducible apply cel2 (b := w.heap.size + 1 + 1) hb_w2); (focus ((try simp) <;> omega)); (focus omega); (focus (go_simp; try exact rfl)); (focus (go_simp; try exact rfl)); (focus (intro o; go_simp)); intro cc cc fz hl)
    have HV2 := Lib.hid hv2
    obtain ⟨A2, c2, rfl, _, _⟩ := hv2
    go_wp2_with fail
    (go_at_call 48; refine (HSZ.out _ _ HV2.out).mono ?_; rintro e w3 ⟨hb_w3, A3, c3, rfl, hc3, hA3⟩; have hz_w3 := hb_w3.size; (try simp at hz_w3); (with_reducible apply cel2 (b := w.heap.size) hb_w3); (focus ((try simp) <;> omega)); (focus omega); (focus (go_simp; try exact rfl)); (focus (go_simp; try exact rfl)); (focus (intro o; go_simp)); intro cc cc fz hl; (with_reducible apply cel2 (b := w.heap.size + 1) hb_w3); (focus ((try simp) <;> omega)); (focus omega); (focus (go_simp; try exact rfl)); (focus (go_simp; try exact rfl)); (focus (intro o; go_simp)); intro cc cc fz hl; (with_reducible apply cel2 (b := w.heap.size + 1 + 1) hb_w3); (focus ((try simp) <;> omega)); (focus omega); (focus (go_simp; try exact rfl)); (focus (go_simp; try exact rfl)); (focus (intro o; go_simp)); intro cc cc fz hl)
    have HC3 := Lib.hid hc3
    have HA3 := Lib.hid hA3
    clear hc3 hA3
    go_wp2_with fail
    refine bodyPost_ret (v := .tuple #[.agg #[.bool (decide (r1 < 0)), .slice A3 (canN r1.natAbs).length c3], .int .i64 r2]) (by simp only [results, Try.results24]; go_simp) rfl ⟨?_, ?_⟩
    · exact HB1.out.trans (by ((with_reducible (repeat (first | exact bR _ _ | refine bS ?_ ?_ _ | refine bA ?_ ?_ _ | refine bD ?_ | refine bT ?_ (by assumption) ?_ | refine bO (by assumption) ?_ ?_))) <;> (first | omega | (simp; done) | (simp <;> omega))))
    · exact ⟨A3, c3, rfl, HC3.out, HA3.out.set2 (by assumption) (by assumption) _ _⟩
  · have e : addR a b = (0, 2) := by unfold addR; rw [← hq, hqq]; rfl
    rw [e]
    subst hqq
    clear hq e hlen
    go_enter Try.func24, Try.ntmps24; (try simp only [List.append_eq, List.cons_append, List.nil_append])
    go_wp2_with fail
    -- own blocks: w.heap.size:2, w.heap.size + 1:2, w.heap.size + 1 + 1:2
    (go_at_call 51; refine (HLO.out _ _ (by simp) (by go_simp) (by go_simp) (by go_simp) (by go_simp) (by ((with_reducible (repeat (first | exact bR _ _ | refine bS ?_ ?_ _ | refine bA ?_ ?_ _ | refine bD ?_ | refine bT ?_ (by assumption) ?_ | refine bO (by assumption) ?_ ?_))) <;> (first | omega | (simp; done) | (simp <;> omega))))).mono ?_; rintro e w1 ⟨rfl, hb_w1⟩; have hz_w1 := hb_w1.size; (try simp at hz_w1); (with_reducible apply cel2 (b := w.heap.size) hb_w1); (focus ((try simp) <;> omega)); (focus omega); (focus (go_simp; try exact rfl)); (focus (go_simp; try exact rfl)); (focus (intro o; go_simp)); intro cc cc fz hl; (with_reducible apply cel2 (b := w.heap.size + 1) hb_w1); (focus ((try simp) <;> omega)); (focus omega); (focus (go_simp; try exact rfl)); (focus (go_simp; try exact rfl)); (focus (intro o; go_simp)); intro cc cc fz hl; (with_reducible apply cel2 (b := w.heap.size + 1 + 1) hb_w1); (focus ((try simp) <;> omega)); (focus omega); (focus (go_simp; try exact rfl)); (focus (go_simp; try exact rfl)); (focus (intro o; go_simp)); intro cc cc fz hl)
    have HB1 := Lib.hid (show Below w.heap.size w w1 by ((with_reducible (repeat (first | exact bR _ _ | refine bS ?_ ?_ _ | refine bA ?_ ?_ _ | refine bD ?_ | refine bT ?_ (by assumption) ?_ | refine bO (by assumption) ?_ ?_))) <;> (first | omega | (simp; done) | (simp <;> omega))))
    go_wp2_with fail
    refine bodyPost_ret (v := .tuple #[.agg #[.bool false, .slice none 0 0], .int .i64 2]) (by simp only [results, Try.results24]; go_simp) rfl (eout_zero ((HB1.out.setCell (by simp <;> omega) _).setCell (by simp <;> omega) _))
def subR (a b : Int) : Int × Int := if lgB a || lgB b then (0, 2) else sizedR (a - b)
set_option maxHeartbeats 2000000 in
theorem isub_any (n : Nat) (u v : Value) (a b : Int) (w : World) (ha : IsZ w u n a) (hb : IsZ w v n b) (hn : n ≤ 100000) :
    Calls Try.prog 19 #[u, v] w (EOut (subR a b).1 (subR a b).2 w) := by
  have HA := Lib.hid ha
  have HB := Lib.hid hb
  have hlen := len_sub (isZ_len ha) (isZ_len hb)
  obtain ⟨p, A, c, l, rfl⟩ := isZ_val ha
  obtain ⟨p', A', c', l', rfl⟩ := isZ_val hb
  obtain ⟨q, hq⟩ : ∃ q, q = (lgB a || lgB b) := ⟨_, rfl⟩
  have hlo := fun g w' hg h0 h1 h2 h3 (hbb : Below w.heap.size w w') => large_two n g (.bool p) (.slice A l c) (.bool p') (.slice A' l' c') a b w' hg h0 h1 h2 h3 (HA.out.below hbb) (HB.out.below hbb) (by omega)
  rw [← hq] at hlo
  have HLO := Lib.hid hlo
  clear ha hb hlo
  cases hqq : q
  · obtain ⟨Z, hZ⟩ : ∃ Z, Z = a - b := ⟨_, rfl⟩
    have e : subR a b = sizedR Z := by unfold subR; rw [← hq, hqq, hZ]; rfl
    rw [← hZ] at hlen
    have hop := fun w' (hbb : Below w.heap.size w w') => wsub_any n _ _ a b w' (HA.out.below hbb) (HB.out.below hbb) (by omega)
    rw [← hZ] at hop
    have hsz := fun v w' h => sized_any (n + 1) v Z w' h hlen (by omega)
    rw [e]
    obtain ⟨r1, r2, hr⟩ : ∃ r1 r2, sizedR Z = (r1, r2) := ⟨_, _, rfl⟩
    rw [hr] at hsz ⊢
    have HOP := Lib.hid hop
    have HSZ := Lib.hid hsz
    subst hqq
    clear hq e hop hsz hr hZ hlen
    go_enter Try.func19, Try.ntmps19; (try simp only [List.append_eq, List.cons_append, List.nil_append])
    go_wp2_with fail
    -- own blocks: w.heap.size:2, w.heap.size + 1:2, w.heap.size + 1 + 1:2
    (go_at_call 51; refine (HLO.out _ _ (by simp) (by go_simp) (by go_simp) (by go_simp) (by go_simp) (by ((with_reducible (repeat (first | exact bR _ _ | refine bS ?_ ?_ _ | refine bA ?_ ?_ _ | refine bD ?_ | refine bT ?_ (by assumption) ?_ | refine bO (by assumption) ?_ ?_))) <;> (first | omega | (simp; done) | (simp <;> omega))))).mono ?_; rintro e w1 ⟨rfl, hb_w1⟩; have hz_w1 := hb_w1.size; (try simp at hz_w1); (with_reducible apply cel2 (b := w.heap.size) hb_w1); (focus ((try simp) <;> omega)); (focus omega); (focus (go_simp; try exact rfl)); (focus (go_simp; try exact rfl)); (focus (intro o; go_simp)); intro cc cc fz hl; (with_reducible apply cel2 (b := w.heap.size + 1) hb_w1); (focus ((try simp) <;> omega)); (focus omega); (focus (go_simp; try exact rfl)); (focus (go_simp; try exact rfl)); (focus (intro o; go_simp)); intro cc cc fz hl; (with_reducible apply cel2 (b := w.heap.size + 1 + 1) hb_w1); (focus ((try simp) <;> omega)); (focus omega); (focus (go_simp; try exact rfl)); (focus (go_simp; try exact rfl)); (focus (intro o; go_simp)); intro cc cc fz hl)
    have HB1 := Lib.hid (show Below w.heap.size w w1 by ((with_reducible (repeat (first | exact bR _ _ | refine bS ?_ ?_ _ | refine bA ?_ ?_ _ | refine bD ?_ | refine bT ?_ (by assumption) ?_ | refine bO (by assumption) ?_ ?_))) <;> (first | omega | (simp; done) | (simp <;> omega))))
    go_wp2_with fail
    (go_at_call 59; refine (HOP.out _ HB1.out).mono ?_; rintro e w2 ⟨hb_w2, v2, rfl, hv2⟩; have hz_w2 := hb_w2.size; (try simp at hz_w2); (with_reducible apply cel2 (b := w.heap.size) hb_w2); (focus ((try simp) <;> omega)); (focus omega); (focus (go_simp; try exact rfl)); (focus (go_simp; try exact rfl)); (focus (intro o; go_simp)); intro cc cc fz hl; (with_reducible apply cel2 (b := w.heap.size + 1) hb_w2); (focus ((try simp) <;> omega)); (focus omega); (focus (go_simp; try exact rfl)); (focus (go_simp; try exact rfl)); (focus (intro o; go_simp)); intro cc cc fz hl; (with_reducible apply cel2 (b := w.heap.size + 1 + 1) hb_w2); (focus ((try simp) <;> omega)); (focus omega); (focus (go_simp; try exact rfl)); (focus (go_simp; try exact rfl)); (focus (intro o; go_simp)); intro cc cc fz hl)
    have HV2 := Lib.hid hv2
    obtain ⟨A2, c2, rfl, _, _⟩ := hv2
    go_wp2_with fail
    (go_at_call 48; refine (HSZ.out _ _ HV2.out).mono ?_; rintro e w3 ⟨hb_w3, A3, c3, rfl, hc3, hA3⟩; have hz_w3 := hb_w3.size; (try simp at hz_w3); (with_reducible apply cel2 (b := w.heap.size) hb_w3); (focus ((try simp) <;> omega)); (focus omega); (focus (go_simp; try exact rfl)); (focus (go_simp; try exact rfl)); (focus (intro o; go_simp)); intro cc cc fz hl; (with_reducible apply cel2 (b := w.heap.size + 1) hb_w3); (focus ((try simp) <;> omega)); (focus omega); (focus (go_simp; try exact rfl)); (focus (go_simp; try exact rfl)); (focus (intro o; go_simp)); intro cc cc fz hl; (with_reducible apply cel2 (b := w.heap.size + 1 + 1) hb_w3); (focus ((try simp) <;> omega)); (focus omega); (focus (go_simp; try exact rfl)); (focus (go_simp; try exact rfl)); (focus (intro o; go_simp)); intro cc cc fz hl)
    have HC3 := Lib.hid hc3
    have HA3 := Lib.hid hA3
    clear hc3 hA3
    go_wp2_with fail
    refine bodyPost_ret (v := .tuple #[.agg #[.bool (decide (r1 < 0)), .slice A3 (canN r1.natAbs).length c3], .int .i64 r2]) (by simp only [results, Try.results19]; go_simp) rfl ⟨?_, ?_⟩
    · exact HB1.out.trans (by ((with_reducible (repeat (first | exact bR _ _ | refine bS ?_ ?_ _ | refine bA ?_ ?_ _ | refine bD ?_ | refine bT ?_ (by assumption) ?_ | refine bO (by assumption) ?_ ?_))) <;> (first | omega | (simp; done) | (simp <;> omega))))
    · exact ⟨A3, c3, rfl, HC3.out, HA3.out.set2 (by assumption) (by assumption) _ _⟩
  · have e : subR a b = (0, 2) := by unfold subR; rw [← hq, hqq]; rfl
    rw [e]
    subst hqq
    clear hq e hlen
    go_enter Try.func19, Try.ntmps19; (try simp only [List.append_eq, List.cons_append, List.nil_append])
    go_wp2_with fail
    -- own blocks: w.heap.size:2, w.heap.size + 1:2, w.heap.size + 1 + 1:2
    (go_at_call 51; refine (HLO.out _ _ (by simp) (by go_simp) (by go_simp) (by go_simp) (by go_simp) (by ((with_reducible (repeat (first | exact bR _ _ | refine bS ?_ ?_ _ | refine bA ?_ ?_ _ | refine bD ?_ | refine bT ?_ (by assumption) ?_ | refine bO (by assumption) ?_ ?_))) <;> (first | omega | (simp; done) | (simp <;> omega))))).mono ?_; rintro e w1 ⟨rfl, hb_w1⟩; have hz_w1 := hb_w1.size; (try simp at hz_w1); (with_reducible apply cel2 (b := w.heap.size) hb_w1); (focus ((try simp) <;> omega)); (focus omega); (focus (go_simp; try exact rfl)); (focus (go_simp; try exact rfl)); (focus (intro o; go_simp)); intro cc cc fz hl; (with_reducible apply cel2 (b := w.heap.size + 1) hb_w1); (focus ((try simp) <;> omega)); (focus omega); (focus (go_simp; try exact rfl)); (focus (go_simp; try exact rfl)); (focus (intro o; go_simp)); intro cc cc fz hl; (with_reducible apply cel2 (b := w.heap.size + 1 + 1) hb_w1); (focus ((try simp) <;> omega)); (focus omega); (focus (go_simp; try exact rfl)); (focus (go_simp; try exact rfl)); (focus (intro o; go_simp)); intro cc cc fz hl)
    have HB1 := Lib.hid (show Below w.heap.size w w1 by ((with_reducible (repeat (first | exact bR _ _ | refine bS ?_ ?_ _ | refine bA ?_ ?_ _ | refine bD ?_ | refine bT ?_ (by assumption) ?_ | refine bO (by assumption) ?_ ?_))) <;> (first | omega | (simp; done) | (simp <;> omega))))
    go_wp2_with fail
    refine bodyPost_ret (v := .tuple #[.agg #[.bool false, .slice none 0 0], .int .i64 2]) (by simp only [results, Try.results19]; go_simp) rfl (eout_zero ((HB1.out.setCell (by simp <;> omega) _).setCell (by simp <;> omega) _))
def mulR (a b : Int) : Int × Int := if lgB a || lgB b then (0, 2) else sizedR (a * b)
set_option maxHeartbeats 2000000 in
theorem imul_any (n : Nat) (u v : Value) (a b : Int) (w : World) (ha : IsZ w u n a) (hb : IsZ w v n b) (hn : n ≤ 100000) :
    Calls Try.prog 23 #[u, v] w (EOut (mulR a b).1 (mulR a b).2 w) := by
  have HA := Lib.hid ha
  have HB := Lib.hid hb
  have hlen := len_mul (isZ_len ha) (isZ_len hb)
  obtain ⟨p, A, c, l, rfl⟩ := isZ_val ha
  obtain ⟨p', A', c', l', rfl⟩ := isZ_val hb
  obtain ⟨q, hq⟩ : ∃ q, q = (lgB a || lgB b) := ⟨_, rfl⟩
  have hlo := fun g w' hg h0 h1 h2 h3 (hbb : Below w.heap.size w w') => large_two n g (.bool p) (.slice A l c) (.bool p') (.slice A' l' c') a b w' hg h0 h1 h2 h3 (HA.out.below hbb) (HB.out.below hbb) (by omega)
  rw [← hq] at hlo
  have HLO := Lib.hid hlo
  clear ha hb hlo
  cases hqq : q
  · obtain ⟨Z, hZ⟩ : ∃ Z, Z = a * b := ⟨_, rfl⟩
    have e : mulR a b = sizedR Z := by unfold mulR; rw [← hq, hqq, hZ]; rfl
    rw [← hZ] at hlen
    have hop := fun w' (hbb : Below w.heap.size w w') => wmul_any n _ _ a b w' (HA.out.below hbb) (HB.out.below hbb) (by omega)
    rw [← hZ] at hop
    have hsz := fun v w' h => sized_any (n + n) v Z w' h hlen (by omega)
    rw [e]
    obtain ⟨r1, r2, hr⟩ : ∃ r1 r2, sizedR Z = (r1, r2) := ⟨_, _, rfl⟩
    rw [hr] at hsz ⊢
    have HOP := Lib.hid hop
    have HSZ := Lib.hid hsz
    subst hqq
    clear hq e hop hsz hr hZ hlen
    go_enter Try.func23, Try.ntmps23; (try simp only [List.append_eq, List.cons_append, List.nil_append])
    go_wp2_with fail
    -- own blocks: w.heap.size:2, w.heap.size + 1:2, w.heap.size + 1 + 1:2
    (go_at_call 51; refine (HLO.out _ _ (by simp) (by go_simp) (by go_simp) (by go_simp) (by go_simp) (by ((with_reducible (repeat (first | exact bR _ _ | refine bS ?_ ?_ _ | refine bA ?_ ?_ _ | refine bD ?_ | refine bT ?_ (by assumption) ?_ | refine bO (by assumption) ?_ ?_))) <;> (first | omega | (simp; done) | (simp <;> omega))))).mono ?_; rintro e w1 ⟨rfl, hb_w1⟩; have hz_w1 := hb_w1.size; (try simp at hz_w1); (with_reducible apply cel2 (b := w.heap.size) hb_w1); (focus ((try simp) <;> omega)); (focus omega); (focus (go_simp; try exact rfl)); (focus (go_simp; try exact rfl)); (focus (intro o; go_simp)); intro cc cc fz hl; (with_reducible apply cel2 (b := w.heap.size + 1) hb_w1); (focus ((try simp) <;> omega)); (focus omega); (focus (go_simp; try exact rfl)); (focus (go_simp; try exact rfl)); (focus (intro o; go_simp)); intro cc cc fz hl; (with_reducible apply cel2 (b := w.heap.size + 1 + 1) hb_w1); (focus ((try simp) <;> omega)); (focus omega); (focus (go_simp; try exact rfl)); (focus (go_simp; try exact rfl)); (focus (intro o; go_simp)); intro cc cc fz hl)
    have HB1 := Lib.hid (show Below w.heap.size w w1 by ((with_reducible (repeat (first | exact bR _ _ | refine bS ?_ ?_ _ | refine bA ?_ ?_ _ | refine bD ?_ | refine bT ?_ (by assumption) ?_ | refine bO (by assumption) ?_ ?_))) <;> (first | omega | (simp; done) | (simp <;> omega))))
    go_wp2_with fail
    (go_at_call 62; refine (HOP.out _ HB1.out).mono ?_; rintro e w2 ⟨hb_w2, v2, rfl, hv2⟩; have hz_w2 := hb_w2.size; (try simp at hz_w2); (with_reducible apply cel2 (b := w.heap.size) hb_w2); (focus ((try simp) <;> omega)); (focus omega); (focus (go_simp; try exact rfl)); (focus (go_simp; try exact rfl)); (focus (intro o; go_simp)); intro cc cc fz hl; (with_reducible apply cel2 (b := w.heap.size + 1) hb_w2); (focus ((try simp) <;> omega)); (focus omega); (focus (go_simp; try exact rfl)); (focus (go_simp; try exact rfl)); (focus (intro o; go_simp)); intro cc cc fz hl; (with_reducible apply cel2 (b := w.heap.size + 1 + 1) hb_w2); (focus ((try simp) <;> omega)); (focus omega); (focus (go_simp; try exact rfl)); (focus (go_simp; try exact rfl)); (focus (intro o; go_simp)); intro cc cc fz hl)
    have HV2 := Lib.hid hv2
    obtain ⟨A2, c2, rfl, _, _⟩ := hv2
    go_wp2_with fail
    (go_at_call 48; refine (HSZ.out _ _ HV2.out).mono ?_; rintro e w3 ⟨hb_w3, A3, c3, rfl, hc3, hA3⟩; have hz_w3 := hb_w3.size; (try simp at hz_w3); (with_reducible apply cel2 (b := w.heap.size) hb_w3); (focus ((try simp) <;> omega)); (focus omega); (focus (go_simp; try exact rfl)); (focus (go_simp; try exact rfl)); (focus (intro o; go_simp)); intro cc cc fz hl; (with_reducible apply cel2 (b := w.heap.size + 1) hb_w3); (focus ((try simp) <;> omega)); (focus omega); (focus (go_simp; try exact rfl)); (focus (go_simp; try exact rfl)); (focus (intro o; go_simp)); intro cc cc fz hl; (with_reducible apply cel2 (b := w.heap.size + 1 + 1) hb_w3); (focus ((try simp) <;> omega)); (focus omega); (focus (go_simp; try exact rfl)); (focus (go_simp; try exact rfl)); (focus (intro o; go_simp)); intro cc cc fz hl)
    have HC3 := Lib.hid hc3
    have HA3 := Lib.hid hA3
    clear hc3 hA3
    go_wp2_with fail
    refine bodyPost_ret (v := .tuple #[.agg #[.bool (decide (r1 < 0)), .slice A3 (canN r1.natAbs).length c3], .int .i64 r2]) (by simp only [results, Try.results23]; go_simp) rfl ⟨?_, ?_⟩
    · exact HB1.out.trans (by ((with_reducible (repeat (first | exact bR _ _ | refine bS ?_ ?_ _ | refine bA ?_ ?_ _ | refine bD ?_ | refine bT ?_ (by assumption) ?_ | refine bO (by assumption) ?_ ?_))) <;> (first | omega | (simp; done) | (simp <;> omega))))
    · exact ⟨A3, c3, rfl, HC3.out, HA3.out.set2 (by assumption) (by assumption) _ _⟩
  · have e : mulR a b = (0, 2) := by unfold mulR; rw [← hq, hqq]; rfl
    rw [e]
    subst hqq
    clear hq e hlen
    go_enter Try.func23, Try.ntmps23; (try simp only [List.append_eq, List.cons_append, List.nil_append])
    go_wp2_with fail
    -- own blocks: w.heap.size:2, w.heap.size + 1:2, w.heap.size + 1 + 1:2
    (go_at_call 51; refine (HLO.out _ _ (by simp) (by go_simp) (by go_simp) (by go_simp) (by go_simp) (by ((with_reducible (repeat (first | exact bR _ _ | refine bS ?_ ?_ _ | refine bA ?_ ?_ _ | refine bD ?_ | refine bT ?_ (by assumption) ?_ | refine bO (by assumption) ?_ ?_))) <;> (first | omega | (simp; done) | (simp <;> omega))))).mono ?_; rintro e w1 ⟨rfl, hb_w1⟩; have hz_w1 := hb_w1.size; (try simp at hz_w1); (with_reducible apply cel2 (b := w.heap.size) hb_w1); (focus ((try simp) <;> omega)); (focus omega); (focus (go_simp; try exact rfl)); (focus (go_simp; try exact rfl)); (focus (intro o; go_simp)); intro cc cc fz hl; (with_reducible apply cel2 (b := w.heap.size + 1) hb_w1); (focus ((try simp) <;> omega)); (focus omega); (focus (go_simp; try exact rfl)); (focus (go_simp; try exact rfl)); (focus (intro o; go_simp)); intro cc cc fz hl; (with_reducible apply cel2 (b := w.heap.size + 1 + 1) hb_w1); (focus ((try simp) <;> omega)); (focus omega); (focus (go_simp; try exact rfl)); (focus (go_simp; try exact rfl)); (focus (intro o; go_simp)); intro cc cc fz hl)
    have HB1 := Lib.hid (show Below w.heap.size w w1 by ((with_reducible (repeat (first | exact bR _ _ | refine bS ?_ ?_ _ | refine bA ?_ ?_ _ | refine bD ?_ | refine bT ?_ (by assumption) ?_ | refine bO (by assumption) ?_ ?_))) <;> (first | omega | (simp; done) | (simp <;> omega))))
    go_wp2_with fail
    refine bodyPost_ret (v := .tuple #[.agg #[.bool false, .slice none 0 0], .int .i64 2]) (by simp only [results, Try.results23]; go_simp) rfl (eout_zero ((HB1.out.setCell (by simp <;> omega) _).setCell (by simp <;> omega) _))
end Go.Proofs.Ytadkcipjcmkoiaa
