/- The contracts of pinballref01.Mul, Quo, Common, Gcd. -/
import Derived.Test.YtadkcipjcmkoiaaRa
import Derived.Test.YtadkcipjcmkoiaaBigQ
import Derived.Test.YtadkcipjcmkoiaaWg
namespace Go.Proofs.Ytadkcipjcmkoiaa
open Go Go.RowKit
set_option linter.unusedVariables false
set_option maxRecDepth 100000 in
set_option maxHeartbeats 4000000 in
theorem rmul_any (n : Nat) (u v : Value) (a b : Int) (w : World) (ha : IsZ w u n a) (hb : IsZ w v n b) (hn : n ≤ 100000) :
    Calls Try.prog 35 #[u, v] w (EOut (mulR a b).1 (mulR a b).2 w) := by
  have hlen := len_mul (isZ_len ha) (isZ_len hb)
  obtain ⟨p, A, c, l, rfl⟩ := isZ_val ha
  obtain ⟨p', A', c', l', rfl⟩ := isZ_val hb
  have hL1 := fun w' (hbb : Below w.heap.size w w') => rlarge_any n _ a w' (ha.below hbb) (by omega)
  have hL2 := fun w' (hbb : Below w.heap.size w w') => rlarge_any n _ b w' (hb.below hbb) (by omega)
  have hpl := fun w' (hbb : Below w.heap.size w w') => times_any n _ _ a b w' (ha.below hbb) (hb.below hbb) (by omega)
  obtain ⟨Z, hZ⟩ : ∃ Z, Z = a * b := ⟨_, rfl⟩
  rw [← hZ] at hpl hlen
  have e : mulR a b = szR a b Z := by rw [szR_eq]; unfold mulR; rw [hZ]
  have hsz := fun t w' (hbb : Below w.heap.size w w') h => rsized_any (n + n) _ _ t a b Z w' ((ha.below hbb).upto (Nat.le_add_left n n)) ((hb.below hbb).upto (Nat.le_add_left n n)) h hlen (by omega)
  obtain ⟨b1, e1⟩ : ∃ q, q = lgB a := ⟨_, rfl⟩
  obtain ⟨b2, e2⟩ : ∃ q, q = lgB b := ⟨_, rfl⟩
  have es : (b1 || b2) = true → mulR a b = (0, 2) := by
    intro h
    unfold mulR
    rw [← e1, ← e2, if_pos h]
  rw [← e1] at hL1
  rw [← e2] at hL2
  have L1 := Lib.hid hL1
  have L2 := Lib.hid hL2
  have HPL := Lib.hid hpl
  have HSZ := Lib.hid hsz
  clear hL1 hL2 ha hb hpl hsz e1 e2 hZ hlen
  cases b1
  · cases b2
    · rw [e]
      obtain ⟨r1, r2, hr⟩ : ∃ r1 r2, szR a b Z = (r1, r2) := ⟨_, _, rfl⟩
      rw [hr] at HSZ ⊢
      clear es e hr
      go_enter Try.func35, Try.ntmps35; (try simp only [List.append_eq, List.cons_append, List.nil_append])
      go_wp2_with fail
      -- own blocks: w.heap.size:2, w.heap.size + 1:2, w.heap.size + 1 + 1:2
      (go_at_call 50; refine (L1.out _ (by ((with_reducible (repeat (first | exact bR _ _ | refine bS ?_ ?_ _ | refine bA ?_ ?_ _ | refine bD ?_ | refine bT ?_ (by assumption) ?_ | refine bO (by assumption) ?_ ?_))) <;> (first | omega | (simp; done) | (simp <;> omega))))).mono ?_; rintro e w2 ⟨rfl, hb_w2⟩; have hz_w2 := hb_w2.size; (try simp at hz_w2); (with_reducible apply cel2 (b := w.heap.size) hb_w2); (focus ((try simp) <;> omega)); (focus omega); (focus (go_simp; try exact rfl)); (focus (go_simp; try exact rfl)); (focus (intro o; go_simp)); intro cc cc fz hl; (with_reducible apply cel2 (b := w.heap.size + 1) hb_w2); (focus ((try simp) <;> omega)); (focus omega); (focus (go_simp; try exact rfl)); (focus (go_simp; try exact rfl)); (focus (intro o; go_simp)); intro cc cc fz hl; (with_reducible apply cel2 (b := w.heap.size + 1 + 1) hb_w2); (focus ((try simp) <;> omega)); (focus omega); (focus (go_simp; try exact rfl)); (focus (go_simp; try exact rfl)); (focus (intro o; go_simp)); intro cc cc fz hl)
      have HB2 := Lib.hid (show Below w.heap.size w w2 by ((with_reducible (repeat (first | exact bR _ _ | refine bS ?_ ?_ _ | refine bA ?_ ?_ _ | refine bD ?_ | refine bT ?_ (by assumption) ?_ | refine bO (by assumption) ?_ ?_))) <;> (first | omega | (simp; done) | (simp <;> omega))))
      clear hb_w2
      go_wp2_with fail
      (go_at_call 50; refine (L2.out _ HB2.out).mono ?_; rintro e w3 ⟨rfl, hb_w3⟩; have hz_w3 := hb_w3.size; (try simp at hz_w3); (with_reducible apply cel2 (b := w.heap.size) hb_w3); (focus ((try simp) <;> omega)); (focus omega); (focus (go_simp; try exact rfl)); (focus (go_simp; try exact rfl)); (focus (intro o; go_simp)); intro cc cc fz hl; (with_reducible apply cel2 (b := w.heap.size + 1) hb_w3); (focus ((try simp) <;> omega)); (focus omega); (focus (go_simp; try exact rfl)); (focus (go_simp; try exact rfl)); (focus (intro o; go_simp)); intro cc cc fz hl; (with_reducible apply cel2 (b := w.heap.size + 1 + 1) hb_w3); (focus ((try simp) <;> omega)); (focus omega); (focus (go_simp; try exact rfl)); (focus (go_simp; try exact rfl)); (focus (intro o; go_simp)); intro cc cc fz hl)
      have HB3 := Lib.hid (HB2.out.trans (hb_w3.mono (by omega)))
      have hz3 : w.heap.size + 1 + 1 + 1 ≤ w3.heap.size := by omega
      clear hb_w3
      go_wp2_with fail
      (refine pin_wp (N := _) (Nat.le_refl _) (fun w1 hb_w1 hz_w1 => ?_); (try simp at hz_w1); (with_reducible apply cel2 (b := w.heap.size) hb_w1); (focus ((try simp) <;> omega)); (focus omega); (focus (go_simp; try exact rfl)); (focus (go_simp; try exact rfl)); (focus (intro o; go_simp)); intro cc cc fz hl; (with_reducible apply cel2 (b := w.heap.size + 1) hb_w1); (focus ((try simp) <;> omega)); (focus omega); (focus (go_simp; try exact rfl)); (focus (go_simp; try exact rfl)); (focus (intro o; go_simp)); intro cc cc fz hl; (with_reducible apply cel2 (b := w.heap.size + 1 + 1) hb_w1); (focus ((try simp) <;> omega)); (focus omega); (focus (go_simp; try exact rfl)); (focus (go_simp; try exact rfl)); (focus (intro o; go_simp)); intro cc cc fz hl); refine wp_region_float w1.heap.size 8 (Nat.le_refl _) (fun _ => True) trivial Cl.tt (by kernel_rfl) (by simp) ?_
      have HB1 := Lib.hid (HB3.out.trans (hb_w1.mono (by omega)))
      clear hb_w1
      refine wpI_start [0, 1, 2, 3] ?_; (iterate 4 (first | (refine wpI_off rfl (by kernel_rfl) rfl (fun K hK => ?_); go_simp; refine hK _ ?_; clear hK K) | ((first | apply wpI_step rfl (by kernel_rfl) rfl | apply wpI_on rfl (by kernel_rfl) rfl); (focus (intro W' hS; have hcS := hS.cells.1; have hfS := hS.cells.2; go_simp; (first | done | exact rfl | exact ⟨rfl, Below.refl _ _⟩ | (go_simp; first | done | exact rfl | exact ⟨rfl, Below.refl _ _⟩)))); intro K hK; go_simp; (try go_bits); refine hK _ ?_; clear hK K))); refine wpI_nil ?_
      apply wpF_call (i := 4) rfl (by kernel_rfl) (by kernel_rfl); intro W hF hS; have hcS := hS.1.cells.1; have hfS := hS.1.cells.2; go_simp; (go_at_call 70; refine (HPL.out _ (HB1.out.trans (hS.1.2.mono (by omega)))).mono ?_; rintro e w4 ⟨hb_w4, v4, rfl, hv4⟩; refine XPost.mk _ (fun W => IsC W v4 Z) hb_w4 (hv4) (IsC.cl _ _) ?_); clear hb_w4 hcS hfS hS hF
      intro K hK; go_simp; (try go_bits); refine hK _ ?_; clear hK K
      clear hv4
      apply wpF_call (i := 5) rfl (by kernel_rfl) (by kernel_rfl); intro W hF hS; have hcS := hS.1.cells.1; have hfS := hS.1.cells.2; go_simp; (go_at_call 67; refine (HSZ.out _ _ (HB1.out.trans (hS.1.2.mono (by omega))) hF).mono ?_; rintro e w5 ⟨hb_w5, A5, c5, rfl, hc5, hA5⟩; refine XPost.mk _ (fun W => LAt W A5 (canN r1.natAbs)) hb_w5 (hA5) (LAt.cl _ _) ?_); clear hb_w5 hcS hfS hS hF
      intro K hK; go_simp; (try go_bits); refine hK _ ?_; clear hK K
      have HC5 := Lib.hid hc5
      clear hA5 hc5
      refine wpI_start [6, 7] ?_; (iterate 2 (first | (refine wpI_off rfl (by kernel_rfl) rfl (fun K hK => ?_); go_simp; refine hK _ ?_; clear hK K) | ((first | apply wpI_step rfl (by kernel_rfl) rfl | apply wpI_on rfl (by kernel_rfl) rfl); (focus (intro W' hS; have hcS := hS.cells.1; have hfS := hS.cells.2; go_simp; (first | done | exact rfl | exact ⟨rfl, Below.refl _ _⟩ | (go_simp; first | done | exact rfl | exact ⟨rfl, Below.refl _ _⟩)))); intro K hK; go_simp; (try go_bits); refine hK _ ?_; clear hK K))); refine wpI_nil ?_
      refine wpF_done (by kernel_rfl) ?_
      intro w11 hF_w11 hSG
      have hz_w11 := hSG.1.1
      have hb_w11 := hSG.1.2
      clear hSG
      (with_reducible apply cel2 (b := w.heap.size) hb_w11); (focus ((try simp) <;> omega)); (focus omega); (focus (go_simp; try exact rfl)); (focus (go_simp; try exact rfl)); (focus (intro o; go_simp)); intro cc cc fz hl; (with_reducible apply cel2 (b := w.heap.size + 1) hb_w11); (focus ((try simp) <;> omega)); (focus omega); (focus (go_simp; try exact rfl)); (focus (go_simp; try exact rfl)); (focus (intro o; go_simp)); intro cc cc fz hl; (with_reducible apply cel2 (b := w.heap.size + 1 + 1) hb_w11); (focus ((try simp) <;> omega)); (focus omega); (focus (go_simp; try exact rfl)); (focus (go_simp; try exact rfl)); (focus (intro o; go_simp)); intro cc cc fz hl
      (try simp only [List.drop_succ_cons, List.drop_zero])
      have HB11 := Lib.hid (HB1.out.trans (hb_w11.mono (by omega)))
      have HL5 := Lib.hid hF_w11.2
      clear hb_w11 hF_w11
      go_wp2_with fail
      refine bodyPost_ret (v := .tuple #[.agg #[.bool (decide (r1 < 0)), .slice A5 (canN r1.natAbs).length c5], .int .i64 r2]) (by simp only [results, Try.results35]; go_simp) rfl ⟨?_, ?_⟩
      · exact (HB11.out.setCell (by simp <;> omega) _).setCell (by simp <;> omega) _
      · exact ⟨A5, c5, rfl, HC5.out, HL5.out.set2 (by assumption) (by assumption) _ _⟩
    · rw [es rfl]
      clear es e
      go_enter Try.func35, Try.ntmps35; (try simp only [List.append_eq, List.cons_append, List.nil_append])
      go_wp2_with fail
      -- own blocks: w.heap.size:2, w.heap.size + 1:2, w.heap.size + 1 + 1:2
      (go_at_call 50; refine (L1.out _ (by ((with_reducible (repeat (first | exact bR _ _ | refine bS ?_ ?_ _ | refine bA ?_ ?_ _ | refine bD ?_ | refine bT ?_ (by assumption) ?_ | refine bO (by assumption) ?_ ?_))) <;> (first | omega | (simp; done) | (simp <;> omega))))).mono ?_; rintro e w2 ⟨rfl, hb_w2⟩; have hz_w2 := hb_w2.size; (try simp at hz_w2); (with_reducible apply cel2 (b := w.heap.size) hb_w2); (focus ((try simp) <;> omega)); (focus omega); (focus (go_simp; try exact rfl)); (focus (go_simp; try exact rfl)); (focus (intro o; go_simp)); intro cc cc fz hl; (with_reducible apply cel2 (b := w.heap.size + 1) hb_w2); (focus ((try simp) <;> omega)); (focus omega); (focus (go_simp; try exact rfl)); (focus (go_simp; try exact rfl)); (focus (intro o; go_simp)); intro cc cc fz hl; (with_reducible apply cel2 (b := w.heap.size + 1 + 1) hb_w2); (focus ((try simp) <;> omega)); (focus omega); (focus (go_simp; try exact rfl)); (focus (go_simp; try exact rfl)); (focus (intro o; go_simp)); intro cc cc fz hl)
      have HB2 := Lib.hid (show Below w.heap.size w w2 by ((with_reducible (repeat (first | exact bR _ _ | refine bS ?_ ?_ _ | refine bA ?_ ?_ _ | refine bD ?_ | refine bT ?_ (by assumption) ?_ | refine bO (by assumption) ?_ ?_))) <;> (first | omega | (simp; done) | (simp <;> omega))))
      clear hb_w2
      go_wp2_with fail
      (go_at_call 50; refine (L2.out _ HB2.out).mono ?_; rintro e w3 ⟨rfl, hb_w3⟩; have hz_w3 := hb_w3.size; (try simp at hz_w3); (with_reducible apply cel2 (b := w.heap.size) hb_w3); (focus ((try simp) <;> omega)); (focus omega); (focus (go_simp; try exact rfl)); (focus (go_simp; try exact rfl)); (focus (intro o; go_simp)); intro cc cc fz hl; (with_reducible apply cel2 (b := w.heap.size + 1) hb_w3); (focus ((try simp) <;> omega)); (focus omega); (focus (go_simp; try exact rfl)); (focus (go_simp; try exact rfl)); (focus (intro o; go_simp)); intro cc cc fz hl; (with_reducible apply cel2 (b := w.heap.size + 1 + 1) hb_w3); (focus ((try simp) <;> omega)); (focus omega); (focus (go_simp; try exact rfl)); (focus (go_simp; try exact rfl)); (focus (intro o; go_simp)); intro cc cc fz hl)
      have HB3 := Lib.hid (HB2.out.trans (hb_w3.mono (by omega)))
      have hz3 : w.heap.size + 1 + 1 + 1 ≤ w3.heap.size := by omega
      clear hb_w3
      go_wp2_with fail
      refine bodyPost_ret (v := .tuple #[.agg #[.bool false, .slice none 0 0], .int .i64 2]) (by simp only [results, Try.results35]; go_simp) rfl (eout_zero ((HB3.out.setCell (by simp <;> omega) _).setCell (by simp <;> omega) _))
  · rw [es rfl]
    clear es e
    go_enter Try.func35, Try.ntmps35; (try simp only [List.append_eq, List.cons_append, List.nil_append])
    go_wp2_with fail
    -- own blocks: w.heap.size:2, w.heap.size + 1:2, w.heap.size + 1 + 1:2
    (go_at_call 50; refine (L1.out _ (by ((with_reducible (repeat (first | exact bR _ _ | refine bS ?_ ?_ _ | refine bA ?_ ?_ _ | refine bD ?_ | refine bT ?_ (by assumption) ?_ | refine bO (by assumption) ?_ ?_))) <;> (first | omega | (simp; done) | (simp <;> omega))))).mono ?_; rintro e w2 ⟨rfl, hb_w2⟩; have hz_w2 := hb_w2.size; (try simp at hz_w2); (with_reducible apply cel2 (b := w.heap.size) hb_w2); (focus ((try simp) <;> omega)); (focus omega); (focus (go_simp; try exact rfl)); (focus (go_simp; try exact rfl)); (focus (intro o; go_simp)); intro cc cc fz hl; (with_reducible apply cel2 (b := w.heap.size + 1) hb_w2); (focus ((try simp) <;> omega)); (focus omega); (focus (go_simp; try exact rfl)); (focus (go_simp; try exact rfl)); (focus (intro o; go_simp)); intro cc cc fz hl; (with_reducible apply cel2 (b := w.heap.size + 1 + 1) hb_w2); (focus ((try simp) <;> omega)); (focus omega); (focus (go_simp; try exact rfl)); (focus (go_simp; try exact rfl)); (focus (intro o; go_simp)); intro cc cc fz hl)
    have HB2 := Lib.hid (show Below w.heap.size w w2 by ((with_reducible (repeat (first | exact bR _ _ | refine bS ?_ ?_ _ | refine bA ?_ ?_ _ | refine bD ?_ | refine bT ?_ (by assumption) ?_ | refine bO (by assumption) ?_ ?_))) <;> (first | omega | (simp; done) | (simp <;> omega))))
    clear hb_w2
    go_wp2_with fail
    refine bodyPost_ret (v := .tuple #[.agg #[.bool false, .slice none 0 0], .int .i64 2]) (by simp only [results, Try.results35]; go_simp) rfl (eout_zero ((HB2.out.setCell (by simp <;> omega) _).setCell (by simp <;> omega) _))
set_option maxRecDepth 100000 in
set_option maxHeartbeats 4000000 in
theorem rcommon_any (n : Nat) (u v : Value) (a b : Int) (w : World) (ha : IsZ w u n a) (hb : IsZ w v n b) (hn : n ≤ 200000) :
    Calls Try.prog 72 #[u, v] w (NOut (Nat.gcd a.natAbs b.natAbs) w) := by
  have la := isZ_len ha
  have lb := isZ_len hb
  obtain ⟨p, A, c, l, rfl, hc, hL, hl, hAt, ea, ma, ca⟩ := isZ_open ha
  obtain ⟨p', A', c', l', rfl, hc', hL', hl', hAt', eb, mb, cb⟩ := isZ_open hb
  have va : sv false (mv l) = ((a.natAbs : Nat) : Int) := by have := mv_nonneg hL; unfold sv; simp; omega
  have vb : sv false (mv l') = ((b.natAbs : Nat) : Int) := by have := mv_nonneg hL'; unfold sv; simp; omega
  obtain ⟨x, hx⟩ : ∃ x, x = a.natAbs := ⟨_, rfl⟩
  obtain ⟨y, hy⟩ : ∃ y, y = b.natAbs := ⟨_, rfl⟩
  rw [← hx] at va la
  rw [← hy] at vb lb
  have hma := fun w' (h : Below w.heap.size w w') => ((by have := make1_any false A l c w' hL (hAt.below h) hc (by omega); rwa [va] at this) : Calls Try.prog 49 #[.bool false, .slice A l.length c] w' (ZOut (x : Int) w')).mono fun _ _ h => h.nat
  have hmb := fun w' (h : Below w.heap.size w w') => ((by have := make1_any false A' l' c' w' hL' (hAt'.below h) hc' (by omega); rwa [vb] at this) : Calls Try.prog 49 #[.bool false, .slice A' l'.length c'] w' (ZOut (y : Int) w')).mono fun _ _ h => h.nat
  rw [← hx, ← hy]
  obtain ⟨G, hG⟩ : ∃ G, G = Nat.gcd x y := ⟨_, rfl⟩
  rw [← hG]
  have HG := Lib.hid hG
  have HMA := Lib.hid hma
  have HMB := Lib.hid hmb
  obtain ⟨ln, hln⟩ : ∃ q, q = l.length := ⟨_, rfl⟩
  obtain ⟨ln', hln'⟩ : ∃ q, q = l'.length := ⟨_, rfl⟩
  rw [← hln] at HMA ⊢
  rw [← hln'] at HMB ⊢
  clear ha hb hma hmb hx hy hG hL hL' hAt hAt' ea eb ma mb ca cb va vb hl hl' hln hln' hc hc'
  go_enter Try.func72, Try.ntmps72; (try simp only [List.append_eq, List.cons_append, List.nil_append])
  go_wp2_with fail
  -- own blocks: w.heap.size:2, w.heap.size + 1:2, w.heap.size + 1 + 1:2
  have HB0 := Lib.hid (show Below w.heap.size w (((w.alloc (.cells #[.bool p, .slice A ln c] 24)).alloc (.cells #[.bool p', .slice A' ln' c'] 24)).alloc (.cells #[.bool false, .slice none 0 0] 24)) by ((with_reducible (repeat (first | exact bR _ _ | refine bS ?_ ?_ _ | refine bA ?_ ?_ _ | refine bD ?_ | refine bT ?_ (by assumption) ?_ | refine bO (by assumption) ?_ ?_))) <;> (first | omega | (simp; done) | (simp <;> omega))))
  (refine pin_wp (N := _) (Nat.le_refl _) (fun w1 hb_w1 hz_w1 => ?_); (try simp at hz_w1); (with_reducible apply cel2 (b := w.heap.size) hb_w1); (focus ((try simp) <;> omega)); (focus omega); (focus (go_simp; try exact rfl)); (focus (go_simp; try exact rfl)); (focus (intro o; go_simp)); intro cc cc fz hl; (with_reducible apply cel2 (b := w.heap.size + 1) hb_w1); (focus ((try simp) <;> omega)); (focus omega); (focus (go_simp; try exact rfl)); (focus (go_simp; try exact rfl)); (focus (intro o; go_simp)); intro cc cc fz hl; (with_reducible apply cel2 (b := w.heap.size + 1 + 1) hb_w1); (focus ((try simp) <;> omega)); (focus omega); (focus (go_simp; try exact rfl)); (focus (go_simp; try exact rfl)); (focus (intro o; go_simp)); intro cc cc fz hl); refine wp_region_float w1.heap.size 10 (Nat.le_refl _) (fun _ => True) trivial Cl.tt (by kernel_rfl) (by simp) ?_
  have HB1 := Lib.hid (HB0.out.trans (hb_w1.mono (by simp <;> omega)))
  have hz1 : w.heap.size + 1 + 1 + 1 ≤ w1.heap.size := by omega
  clear hb_w1
  refine wpI_start [0, 1] ?_; (iterate 2 (first | (refine wpI_off rfl (by kernel_rfl) rfl (fun K hK => ?_); go_simp; refine hK _ ?_; clear hK K) | ((first | apply wpI_step rfl (by kernel_rfl) rfl | apply wpI_on rfl (by kernel_rfl) rfl); (focus (intro W' hS; have hcS := hS.cells.1; have hfS := hS.cells.2; go_simp; (first | done | exact rfl | exact ⟨rfl, Below.refl _ _⟩ | (go_simp; first | done | exact rfl | exact ⟨rfl, Below.refl _ _⟩)))); intro K hK; go_simp; (try go_bits); refine hK _ ?_; clear hK K))); refine wpI_nil ?_
  refine wpI_start [3, 4] ?_; (iterate 2 (first | (refine wpI_off rfl (by kernel_rfl) rfl (fun K hK => ?_); go_simp; refine hK _ ?_; clear hK K) | ((first | apply wpI_step rfl (by kernel_rfl) rfl | apply wpI_on rfl (by kernel_rfl) rfl); (focus (intro W' hS; have hcS := hS.cells.1; have hfS := hS.cells.2; go_simp; (first | done | exact rfl | exact ⟨rfl, Below.refl _ _⟩ | (go_simp; first | done | exact rfl | exact ⟨rfl, Below.refl _ _⟩)))); intro K hK; go_simp; (try go_bits); refine hK _ ?_; clear hK K))); refine wpI_nil ?_
  apply wpF_call (i := 2) rfl (by kernel_rfl) (by kernel_rfl); intro W hF hS; have hcS := hS.1.cells.1; have hfS := hS.1.cells.2; go_simp; (go_at_call 49; refine (HMA.out _ (HB1.out.trans (hS.1.2.mono (by omega)))).mono ?_; rintro e w2 ⟨hb_w2, A1, c1, rfl, hc1, hA1⟩; refine XPost.mk _ (fun W => LAt W A1 (canN x)) hb_w2 (hA1) (LAt.cl _ _) ?_); clear hb_w2 hcS hfS hS hF
  intro K hK; go_simp; (try go_bits); refine hK _ ?_; clear hK K
  have HC1 := Lib.hid hc1
  clear hA1 hc1
  apply wpF_call (i := 5) rfl (by kernel_rfl) (by kernel_rfl); intro W hF hS; have hcS := hS.1.cells.1; have hfS := hS.1.cells.2; go_simp; (go_at_call 49; refine (HMB.out _ (HB1.out.trans (hS.1.2.mono (by omega)))).mono ?_; rintro e w3 ⟨hb_w3, A2, c2, rfl, hc2, hA2⟩; refine XPost.mk _ (fun W => LAt W A2 (canN y)) hb_w3 (hA2) (LAt.cl _ _) ?_); clear hb_w3 hcS hfS hS hF
  intro K hK; go_simp; (try go_bits); refine hK _ ?_; clear hK K
  have HC2 := Lib.hid hc2
  clear hA2 hc2
  refine wpF_fresh2 (i := 6) (fun F G G' a h hL w' hF hS => hL w' hF (hS.same (fun p => (h p).symm))) rfl (by kernel_rfl) _ (by intro W; go_simp; first | done | exact rfl) ?_
  intro g_6 hN_6 hG_6 K hK
  go_simp; refine hK _ ?_; clear hK K
  refine wpF_fresh2 (i := 7) (fun F G G' a h hL w' hF hS => hL w' hF (hS.same (fun p => (h p).symm))) rfl (by kernel_rfl) _ (by intro W; go_simp; first | done | exact rfl) ?_
  intro g_7 hN_7 hG_7 K hK
  go_simp; refine hK _ ?_; clear hK K
  have hne : g_6 ≠ g_7 := hG_7 _ (List.mem_cons_self ..)
  apply wpF_wild (i := 8) rfl (by kernel_rfl) (by kernel_rfl); intro W hF hS; have hcS := hS.1.cells.1; have hfS := hS.1.cells.2; have k4 := C2.of_row (hS.2 _ (List.mem_cons_of_mem _ (List.mem_cons_self ..))).2; have k5 := C2.of_row (hS.2 _ (List.mem_cons_self ..)).2; have a0 := k4.1; have a1 := k4.2.1; have a2 := k4.2.2; have a3 := k4.lt; go_simp
  refine WPost.mk _ (fun W' => LAt W' A1 (canN x) ∧ LAt W' A2 (canN y) ∧ C2 W' g_6 (.bool false) (.slice A1 (canN x).length c1) ∧ C2 W' g_7 (.bool false) (.slice none 0 0)) [] ⟨hF.1.set2 a0 a1 _ _, hF.2.set2 a0 a1 _ _, k4.set _ _, k5.far (Ne.symm hne) _ _⟩ ((LAt.cl _ _).and ((LAt.cl _ _).and ((C2.cl _ _ _).and (C2.cl _ _ _)))) ⟨(hS.1.setCell hN_6 _).setCell hN_6 _, fun p hp => by cases hp⟩ ?_
  clear k4 k5 a0 a1 a2 a3 hcS hfS hS hF
  intro K hK; go_simp; refine hK _ ?_; clear hK K
  apply wpF_wild (i := 9) rfl (by kernel_rfl) (by kernel_rfl); intro W hF hS; have hcS := hS.1.cells.1; have hfS := hS.1.cells.2; have k5 := hF.2.2.2; have a0 := k5.1; have a1 := k5.2.1; have a2 := k5.2.2; have a3 := k5.lt; go_simp
  refine WPost.mk _ (fun W' => LAt W' A1 (canN x) ∧ LAt W' A2 (canN y) ∧ C2 W' g_6 (.bool false) (.slice A1 (canN x).length c1) ∧ C2 W' g_7 (.bool false) (.slice A2 (canN y).length c2)) [] ⟨hF.1.set2 a0 a1 _ _, hF.2.1.set2 a0 a1 _ _, hF.2.2.1.far hne _ _, k5.set _ _⟩ ((LAt.cl _ _).and ((LAt.cl _ _).and ((C2.cl _ _ _).and (C2.cl _ _ _)))) ⟨(hS.1.setCell hN_7 _).setCell hN_7 _, fun p hp => by cases hp⟩ ?_
  clear k5 a0 a1 a2 a3 hcS hfS hS hF
  intro K hK; go_simp; refine hK _ ?_; clear hK K
  refine wpF_done (by kernel_rfl) ?_
  intro w4 hF4 hSG
  have HB14 := Lib.hid hSG.1.2
  have HF4 := Lib.hid hF4
  clear hF4 hSG hG_6 hG_7
  (try simp only [List.drop_succ_cons, List.drop_zero])
  go_wp2_with fail
  go_loopg [7] y (fun gk _ wr => ∃ (X Y : Nat) (A B : Option Addr) (c d : Nat), Y = gk ∧ C2 wr g_6 (.bool false) (.slice A (canN X).length c) ∧ C2 wr g_7 (.bool false) (.slice B (canN Y).length d) ∧ Hid (LAt wr A (canN X) ∧ LAt wr B (canN Y) ∧ (canN X).length ≤ c ∧ (canN Y).length ≤ d ∧ G = Nat.gcd X Y) ∧ (canN X).length ≤ n ∧ (canN Y).length ≤ n ∧ Below w1.heap.size w1 wr)
  case atStart => exact ⟨x, y, A1, A2, c1, c2, rfl, HF4.out.2.2.1, HF4.out.2.2.2, Lib.hid ⟨HF4.out.1, HF4.out.2.1, HC1.out, HC2.out, HG.out⟩, by omega, by omega, HB14.out⟩
  case round =>
    obtain ⟨X, Y, A3, B3, c3, d3, hgk, hx2, hy2, HR, lx, ly, hbel⟩ := hrel
    subst hgk
    obtain ⟨wo, rfl⟩ : ∃ wo : World, wo = wr := ⟨_, rfl⟩
    have HX := Lib.hid hx2
    have HY := Lib.hid hy2
    have HBE := Lib.hid hbel
    have hz := hbel.size
    have x1 := hx2.1
    have x2 := hx2.2.1
    have x3 := hx2.2.2
    have x4 := hx2.lt
    have y1 := hy2.1
    have y2 := hy2.2.1
    have y3 := hy2.2.2
    have y4 := hy2.lt
    -- own blocks: w.heap.size + 1 + 1:2
    have hb_wo := hbel
    (with_reducible apply cel2 (b := w.heap.size + 1 + 1) hb_wo); (focus ((try simp) <;> omega)); (focus omega); (focus (go_simp; try exact rfl)); (focus (go_simp; try exact rfl)); (focus (intro o; go_simp)); intro cc cc fz hl
    clear hb_wo hbel hx2 hy2
    have hsg := sign_any n (.agg #[.bool false, .slice B3 (canN Y).length d3]) Y wo (isZ_nat HR.out.2.1 HR.out.2.2.2.1 ly) (by omega)
    by_cases h0 : Y = 0
    · have hg : G = X := by rw [HR.out.2.2.2.2, h0, Nat.gcd_zero_right]
      rw [show sgn (Y : Int) = 0 by rw [h0]; rfl] at hsg
      have HSG := Lib.hid hsg
      subst hg
      clear h0 hsg
      go_wp2_with fail
      -- own blocks: w.heap.size + 1 + 1:2, g_6:2, g_7:2
      (go_at_call 43; refine (HSG.out).mono ?_; rintro e w9 ⟨rfl, hb_w9⟩; have hz_w9 := hb_w9.size; (try simp at hz_w9); (with_reducible apply cel2 (b := w.heap.size + 1 + 1) hb_w9); (focus ((try simp) <;> omega)); (focus omega); (focus (go_simp; try exact rfl)); (focus (go_simp; try exact rfl)); (focus (intro o; go_simp)); intro cc cc fz hl; (with_reducible apply cel2 (b := g_6) hb_w9); (focus ((try simp) <;> omega)); (focus omega); (focus (go_simp; try exact rfl)); (focus (go_simp; try exact rfl)); (focus (intro o; go_simp)); intro cc cc fz hl; (with_reducible apply cel2 (b := g_7) hb_w9); (focus ((try simp) <;> omega)); (focus omega); (focus (go_simp; try exact rfl)); (focus (go_simp; try exact rfl)); (focus (intro o; go_simp)); intro cc cc fz hl)
      have HXA := Lib.hid (HR.out.1.below hb_w9)
      have HB9 := Lib.hid (HBE.out.trans (hb_w9.mono hz))
      clear hb_w9
      go_wp2_with fail
      refine bodyPost_ret (v := .agg #[.bool false, .slice A3 (canN G).length c3]) (by simp only [results, Try.results72]; go_simp) rfl ⟨?_, ?_⟩
      · exact ((HB1.out.trans (HB9.out.mono (by omega))).setCell (by simp <;> omega) _).setCell (by simp <;> omega) _
      · exact ⟨A3, c3, rfl, HR.out.2.2.1, HXA.out.set2 (by assumption) (by assumption) _ _⟩
    · rw [show sgn (Y : Int) = 1 by unfold sgn; rw [if_neg (by omega), if_neg (by omega)]] at hsg
      have HSG := Lib.hid hsg
      clear hsg
      go_wp2_with fail
      -- own blocks: w.heap.size + 1 + 1:2, g_6:2, g_7:2
      (go_at_call 43; refine (HSG.out).mono ?_; rintro e w8 ⟨rfl, hb_w8⟩; have hz_w8 := hb_w8.size; (try simp at hz_w8); (with_reducible apply cel2 (b := w.heap.size + 1 + 1) hb_w8); (focus ((try simp) <;> omega)); (focus omega); (focus (go_simp; try exact rfl)); (focus (go_simp; try exact rfl)); (focus (intro o; go_simp)); intro cc cc fz hl; (with_reducible apply cel2 (b := g_6) hb_w8); (focus ((try simp) <;> omega)); (focus omega); (focus (go_simp; try exact rfl)); (focus (go_simp; try exact rfl)); (focus (intro o; go_simp)); intro cc cc fz hl; (with_reducible apply cel2 (b := g_7) hb_w8); (focus ((try simp) <;> omega)); (focus omega); (focus (go_simp; try exact rfl)); (focus (go_simp; try exact rfl)); (focus (intro o; go_simp)); intro cc cc fz hl)
      have HXA := Lib.hid (HR.out.1.below hb_w8)
      have HYA := Lib.hid (HR.out.2.1.below hb_w8)
      have HX8 := Lib.hid (HX.out.below hb_w8)
      have HY8 := Lib.hid (HY.out.below hb_w8)
      have HB8 := Lib.hid (HBE.out.trans (hb_w8.mono hz))
      have hz8 : w1.heap.size ≤ w8.heap.size := HB8.out.size
      clear hb_w8 x1 x2 x3 x4 y1 y2 y3 y4 HX HY HBE HSG
      go_wp2_with fail
      (go_at_call 71; refine ((div_any n _ _ X Y w8 (isZ_nat HXA.out HR.out.2.2.1 lx) (isZ_nat HYA.out HR.out.2.2.2.1 ly) hn (by omega)).mono (fun _ _ h => h.nat)).mono ?_; rintro e w9 ⟨hb_w9, A5, c5, A6, c6, rfl, hc5, hc6, hA5, hA6⟩; have hz_w9 := hb_w9.size; (try simp at hz_w9); (with_reducible apply cel2 (b := w.heap.size + 1 + 1) hb_w9); (focus ((try simp) <;> omega)); (focus omega); (focus (go_simp; try exact rfl)); (focus (go_simp; try exact rfl)); (focus (intro o; go_simp)); intro cc cc fz hl; (with_reducible apply cel2 (b := g_6) hb_w9); (focus ((try simp) <;> omega)); (focus omega); (focus (go_simp; try exact rfl)); (focus (go_simp; try exact rfl)); (focus (intro o; go_simp)); intro cc cc fz hl; (with_reducible apply cel2 (b := g_7) hb_w9); (focus ((try simp) <;> omega)); (focus omega); (focus (go_simp; try exact rfl)); (focus (go_simp; try exact rfl)); (focus (intro o; go_simp)); intro cc cc fz hl)
      have HA6 := Lib.hid hA6
      have HC6 := Lib.hid hc6
      have HBY := Lib.hid (HYA.out.below hb_w9)
      have HX9 := Lib.hid (HX8.out.below hb_w9)
      have HY9 := Lib.hid (HY8.out.below hb_w9)
      have HB9 := Lib.hid (HB8.out.trans (hb_w9.mono hz8))
      clear hA5 hA6 hc5 hc6 hb_w9
      go_wp2_with fail
      have HRC := Lib.hid (show C2 ((w9.alloc (.cells #[.bool false, .slice A5 (canN (X / Y)).length c5] 24)).alloc (.cells #[.bool false, .slice A6 (canN (X % Y)).length c6] 24)) (w9.heap.size + 1) (.bool false) (.slice A6 (canN (X % Y)).length c6) from C2.of_row (by have h := heap_alloc_new (w9.alloc (.cells #[.bool false, .slice A5 (canN (X / Y)).length c5] 24)) (.cells #[.bool false, .slice A6 (canN (X % Y)).length c6] 24); simpa using h))
      have hbb : Below w9.heap.size w9 ((w9.alloc (.cells #[.bool false, .slice A5 (canN (X / Y)).length c5] 24)).alloc (.cells #[.bool false, .slice A6 (canN (X % Y)).length c6] 24)) := ((Below.refl _ _).alloc (Nat.le_refl _) _).alloc (by simp) _
      have HX10 := Lib.hid (HX9.out.below hbb)
      have HY10 := Lib.hid (HY9.out.below hbb)
      have HBY10 := Lib.hid (HBY.out.below hbb)
      have HA10 := Lib.hid (HA6.out.below hbb)
      have hz9 := HB9.out.size
      have HB10 := Lib.hid (HB9.out.trans (hbb.mono hz9))
      clear hbb
      refine pin_wp (N := _) (Nat.le_refl _) (fun w10 hb_w10 hz_w10 => ?_)
      have HRC := Lib.hid (HRC.out.below hb_w10)
      have HX10 := Lib.hid (HX10.out.below hb_w10)
      have HY10 := Lib.hid (HY10.out.below hb_w10)
      have HBY10 := Lib.hid (HBY10.out.below hb_w10)
      have HA10 := Lib.hid (HA10.out.below hb_w10)
      have HB10 := Lib.hid (HB10.out.trans (hb_w10.mono (by simp; omega)))
      have n1 : g_6 ≠ w9.heap.size + 1 := by have := HX9.out.lt; omega
      have n2 : g_7 ≠ w9.heap.size + 1 := by have := HY9.out.lt; omega
      have x1 := HX10.out.1
      have x2 := HX10.out.2.1
      have x3 := HX10.out.2.2
      have x4 := HX10.out.lt
      have y1 := HY10.out.1
      have y2 := HY10.out.2.1
      have y3 := HY10.out.2.2
      have y4 := HY10.out.lt
      have r1 := HRC.out.1
      have r2 := HRC.out.2.1
      have r3 := HRC.out.2.2
      have r4 := HRC.out.lt
      clear hb_w10 hz_w10
      go_region
      go_wp2_with fail
      go_roundg (X % Y)
      case measure => exact Nat.mod_lt _ (by omega)
      case rel =>
        have k1 := HY10.out.far (Ne.symm hne) (.bool false) (.slice B3 (canN Y).length d3)
        exact ⟨Y, X % Y, B3, A6, d3, c6, rfl, (HX10.out.set _ _).far hne _ _, k1.set _ _, Lib.hid ⟨(HBY10.out.set2 x1 x2 _ _).set2 k1.1 k1.2.1 _ _, (HA10.out.set2 x1 x2 _ _).set2 k1.1 k1.2.1 _ _, HR.out.2.2.2.1, HC6.out, by rw [HR.out.2.2.2.2, Nat.gcd_comm X Y, Nat.gcd_rec, Nat.gcd_comm]⟩, ly, Nat.le_trans (canN_mono (Nat.mod_le _ _)) lx, by have hb := ((((HB10.out.setCell (p := ⟨g_6, 0, none⟩) hN_6 (.bool false)).setCell (p := ⟨g_6, 1, none⟩) hN_6 (.slice B3 (canN Y).length d3)).setCell (p := ⟨g_7, 0, none⟩) hN_7 (.bool false)).setCell (p := ⟨g_7, 1, none⟩) hN_7 (.slice A6 (canN (X % Y)).length c6)); first | exact hb | exact hb.drew⟩
end Go.Proofs.Ytadkcipjcmkoiaa
