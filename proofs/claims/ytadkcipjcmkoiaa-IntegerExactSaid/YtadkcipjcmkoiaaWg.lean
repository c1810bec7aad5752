/- The contracts of wide.asUint, Gcd, Bits. -/
import Derived.Test.YtadkcipjcmkoiaaWm
import Derived.Test.YtadkcipjcmkoiaaDrawTwo
import Derived.RegionTactic
import Derived.ChangeAlike
namespace Go.Proofs.Ytadkcipjcmkoiaa
open Go Go.RowKit
set_option linter.unusedVariables false
theorem PB_pow (k : Nat) : PB k = 2 ^ (32 * k) := by
  unfold PB
  rw [show (4294967296 : Int) = 2 ^ 32 from rfl, ← Int.pow_mul]
set_option maxRecDepth 100000 in
set_option maxHeartbeats 2000000 in
theorem wasuint_any (p : Bool) (A : Option Addr) (l : List Int) (c : Nat) (w : World) (hL : Lim l) (hA : LAt w A l) (hl : l.length ≤ 2) :
    Calls Try.prog 88 #[.agg #[.bool p, .slice A l.length c]] w fun e w' => e = .returned (.int .u64 (mv l)) ∧ Below w.heap.size w w' := by
  have HL := Lib.hid hL
  have HA := Lib.hid (hA.alloc (.cells #[.bool p, .slice A l.length c] 24))
  clear hL hA
  go_enter Try.func88, Try.ntmps88; (try simp only [List.append_eq, List.cons_append, List.nil_append])
  go_wp2_with fail
  have HB := Lib.hid (show Below w.heap.size w (w.alloc (.cells #[.bool p, .slice A l.length c] 24)) by ((with_reducible (repeat (first | exact bR _ _ | refine bS ?_ ?_ _ | refine bA ?_ ?_ _ | refine bD ?_ | refine bT ?_ (by assumption) ?_ | refine bO (by assumption) ?_ ?_))) <;> (first | omega | (simp; done) | (simp <;> omega))))
  go_loop [3, 4, 5, 9] (fun vn _ _ vi => ∃ (k : Nat) (n : Int), k ≤ l.length ∧ vi = .int .i64 k ∧ vn = .int .u64 n ∧ Hid (n = mv (l.take k))) (fun _ _ _ vi => l.length - (intOf vi).toNat)
  case atStart => exact ⟨0, 0, by omega, rfl, rfl, Lib.hid (by simp [mv])⟩
  case round =>
    obtain ⟨k, n, hk, rfl, rfl, HN⟩ := hrel
    have i1 : (0 : Int) ≤ (k : Int) := by omega
    by_cases hkl : k < l.length
    · obtain ⟨x, hx⟩ : ∃ x, l[k]? = some x := ⟨l[k], by simp⟩
      obtain ⟨g, o, rfl, hg, hcell⟩ := HA.out k x hx
      obtain ⟨x0, x1⟩ := HL.out.get hx
      have j1 : (k : Int) < (l.length : Int) := by omega
      have hk1 : k ≤ 1 := by omega
      obtain ⟨m, hm⟩ : ∃ m, m = 32 * k := ⟨_, rfl⟩
      have e1 : (32 : Int) * (k : Int) = (m : Int) := by omega
      have e2 : min m 64 = m := by omega
      have m0 : (0 : Int) ≤ (m : Int) := by omega
      have m1 : (m : Int) ≤ 32 := by omega
      have hP : PB k = 2 ^ m := by rw [hm]; exact PB_pow k
      have hP1 : PB k = 1 ∨ PB k = 4294967296 := by
        have : k = 0 ∨ k = 1 := by omega
        rcases this with h | h
        · left; rw [h]; rfl
        · right; rw [h]; rfl
      obtain ⟨S, hS⟩ : ∃ S, S = x * PB k := ⟨_, rfl⟩
      have S0 : 0 ≤ S := by rw [hS]; exact Int.mul_nonneg x0 (by omega)
      have S1 : S < 18446744073709551616 := by
        rw [hS]
        rcases hP1 with h | h
        · rw [h]; omega
        · rw [h]; omega
      have n0 : 0 ≤ n := by rw [HN.out]; exact mv_nonneg (HL.out.take k)
      have n1 : n < PB k := by
        have h := mv_lt (HL.out.take k)
        rw [List.length_take, Nat.min_eq_left hk] at h
        rw [HN.out]; exact h
      have hw : IntKind.u64.wrap (x * 2 ^ m) = S := by rw [← hP, ← hS]; exact wraps_u64' S S0 S1
      have hor : bits .or .u64 n S = n + S := by
        refine bits_join_low .u64 64 (by decide) wraps_u64' m n S n0 (by rw [← hP]; exact n1) (by omega) S0 ?_ S1
        rw [hS, hP]
        exact Int.mul_emod_left _ _
      have HST := Lib.hid (show n + S = mv (l.take (k + 1)) by rw [mv_take_succ hx, HN.out, hS, Int.mul_comm])
      clear hx hm hP hP1 hS n1
      go_wp2_with fail
      go_round
      case rel => exact ⟨k + 1, n + S, by omega, by go_num, rfl, HST⟩
      case measure => simp [intOf]; omega
    · obtain rfl : k = l.length := by omega
      have hf : n = mv l := by rw [HN.out, List.take_length]
      have HF := Lib.hid hf
      have j5 : ¬ (l.length : Int) < (l.length : Int) := by omega
      clear hf
      go_wp2_with fail
      go_ret
      exact ⟨by rw [HF.out]; rfl, HB.out⟩
theorem C2.of_row {W : World} {g : Nat} {u v : Value} {T : TypeId} (h : W.heap[g]? = some (.cells #[u, v] T)) : C2 W g u v :=
  ⟨(cell_of_row W g 0 _ _ _ h).trans rfl, (cell_of_row W g 1 _ _ _ h).trans rfl, fun o => frozen_of_row W g o _ _ h⟩
theorem C2.below {W W' : World} {b : Nat} {u v : Value} (h : C2 W b u v) (hb : Below W.heap.size W W') : C2 W' b u v := C2.cl b u v W W' h hb
/-- The result of a function that hands back a natural number. -/
def NOut (X : Nat) (w : World) (e : Ending) (w' : World) : Prop := Below w.heap.size w w' ∧ ∃ A c, e = .returned (.agg #[.bool false, .slice A (canN X).length c]) ∧ (canN X).length ≤ c ∧ LAt w' A (canN X)
theorem ZOut.nat {X : Nat} {w w' : World} {e : Ending} (h : ZOut (X : Int) w e w') : NOut X w e w' := by
  obtain ⟨hb, v, rfl, A, c, rfl, hc, hA⟩ := h
  have e1 : decide ((X : Int) < 0) = false := by simp
  rw [Int.natAbs_natCast] at hc hA
  rw [Int.natAbs_natCast, e1]
  exact ⟨hb, A, c, rfl, hc, hA⟩
theorem NOut.z {X : Nat} {w w' : World} {e : Ending} (h : NOut X w e w') : ZOut (X : Int) w e w' := by
  obtain ⟨hb, A, c, rfl, hc, hA⟩ := h
  exact ⟨hb, _, rfl, A, c, by rw [Int.natAbs_natCast, show decide ((X : Int) < 0) = false by simp], by rw [Int.natAbs_natCast]; exact hc, by rw [Int.natAbs_natCast]; exact hA⟩
theorem dec_nat (k : Nat) : decide ((k : Int) < 0) = false := by rw [decide_eq_false_iff_not]; omega
/-- The quotient and the remainder of natural numbers. -/
def NDOut (q r : Nat) (w : World) (e : Ending) (w' : World) : Prop := Below w.heap.size w w' ∧ ∃ A c B d, e = .returned (.tuple #[.agg #[.bool false, .slice A (canN q).length c], .agg #[.bool false, .slice B (canN r).length d]]) ∧ (canN q).length ≤ c ∧ (canN r).length ≤ d ∧ LAt w' A (canN q) ∧ LAt w' B (canN r)
theorem DOut.nat {X Y : Nat} {w w' : World} {e : Ending} (h : DOut ((X : Int).tdiv Y) ((X : Int).tmod Y) w e w') : NDOut (X / Y) (X % Y) w e w' := by
  have e1 : (X : Int).tdiv Y = ((X / Y : Nat) : Int) := rfl
  have e2 : (X : Int).tmod Y = ((X % Y : Nat) : Int) := rfl
  rw [e1, e2] at h
  obtain ⟨hb, _, _, rfl, ⟨A, c, rfl, hc, hA⟩, ⟨B, d, rfl, hd, hB⟩⟩ := h
  rw [Int.natAbs_natCast] at hc hA hd hB
  rw [Int.natAbs_natCast, Int.natAbs_natCast, show decide (((X / Y : Nat) : Int) < 0) = false from dec_nat _, show decide (((X % Y : Nat) : Int) < 0) = false from dec_nat _]
  exact ⟨hb, A, c, B, d, rfl, hc, hd, hA, hB⟩
theorem isZ_nat {w : World} {A : Option Addr} {X c n : Nat} (hA : LAt w A (canN X)) (hc : (canN X).length ≤ c) (hn : (canN X).length ≤ n) : IsZ w (.agg #[.bool false, .slice A (canN X).length c]) n X := IsZ.pos hA hc hn
theorem wasuint_nat (A : Option Addr) (X c : Nat) (w : World) (hA : LAt w A (canN X)) (hl : (canN X).length ≤ 2) :
    Calls Try.prog 88 #[.agg #[.bool false, .slice A (canN X).length c]] w fun e w' => e = .returned (.int .u64 (X : Int)) ∧ Below w.heap.size w w' := by
  have := wasuint_any false A (canN X) c w (canN_lim X) hA hl
  rwa [mv_canN] at this
theorem word_of_two {X : Nat} (h : (canN X).length ≤ 2) : (X : Int) < 18446744073709551616 := by
  have := canN_len.1 h
  have e : PB 2 = 18446744073709551616 := by decide
  rwa [e] at this
theorem wgcduint_nat (X Y : Nat) (w : World) (hX : (canN X).length ≤ 2) (hY : (canN Y).length ≤ 2) :
    Calls Try.prog 87 #[.int .u64 (X : Int), .int .u64 (Y : Int)] w fun e w' => e = .returned (.int .u64 (Nat.gcd X Y : Nat)) ∧ Below w.heap.size w w' := by
  have := wgcduint_any X Y w (by omega) (word_of_two hX) (by omega) (word_of_two hY)
  rwa [Int.toNat_natCast, Int.toNat_natCast] at this
theorem gcd_two {X Y : Nat} (hX : (canN X).length ≤ 2) (hY : (canN Y).length ≤ 2) : (canN (Nat.gcd X Y)).length ≤ 2 := by
  rcases Nat.eq_zero_or_pos X with h | h
  · subst h; rw [Nat.gcd_zero_left]; exact hY
  · exact Nat.le_trans (canN_mono (Nat.gcd_le_left Y h)) hX
theorem gcd_len {X Y n : Nat} (hX : (canN X).length ≤ n) (hY : (canN Y).length ≤ n) : (canN (Nat.gcd X Y)).length ≤ n := by
  rcases Nat.eq_zero_or_pos X with h | h
  · subst h; rw [Nat.gcd_zero_left]; exact hY
  · exact Nat.le_trans (canN_mono (Nat.gcd_le_left Y h)) hX
theorem wofuint_nat (X : Nat) (w : World) (hX : (canN X).length ≤ 2) : Calls Try.prog 86 #[.int .u64 (X : Int)] w (NOut X w) :=
  (wofuint_any X w (by omega) (word_of_two hX)).mono fun _ _ h => h.nat
set_option maxRecDepth 100000 in
set_option maxHeartbeats 4000000 in
theorem wgcd_any (n : Nat) (u v : Value) (a b : Int) (w : World) (ha : IsZ w u n a) (hb : IsZ w v n b) (hn : n ≤ 200000) :
    Calls Try.prog 64 #[u, v] w (NOut (Nat.gcd a.natAbs b.natAbs) w) := by
  have HA := Lib.hid ha
  have HB := Lib.hid hb
  have la := isZ_len ha
  have lb := isZ_len hb
  obtain ⟨p, A, c, l, rfl⟩ := isZ_val ha
  obtain ⟨p', A', c', l', rfl⟩ := isZ_val hb
  obtain ⟨x, hx⟩ : ∃ x, x = a.natAbs := ⟨_, rfl⟩
  obtain ⟨y, hy⟩ : ∃ y, y = b.natAbs := ⟨_, rfl⟩
  have hma := fun w' (h : Below w.heap.size w w') => (wabs_any n _ a w' (HA.out.below h) (by omega)).mono fun _ _ h => h.nat
  have hmb := fun w' (h : Below w.heap.size w w') => (wabs_any n _ b w' (HB.out.below h) (by omega)).mono fun _ _ h => h.nat
  rw [← hx] at hma la
  rw [← hy] at hmb lb
  rw [← hx, ← hy]
  obtain ⟨G, hG⟩ : ∃ G, G = Nat.gcd x y := ⟨_, rfl⟩
  rw [← hG]
  have HG := Lib.hid hG
  have HMA := Lib.hid hma
  have HMB := Lib.hid hmb
  clear ha hb hma hmb hx hy hG HA HB
  go_enter Try.func64, Try.ntmps64; (try simp only [List.append_eq, List.cons_append, List.nil_append])
  go_wp2_with fail
  -- own blocks: w.heap.size:2, w.heap.size + 1:2, w.heap.size + 1 + 1:2
  have HB0 := Lib.hid (show Below w.heap.size w (((w.alloc (.cells #[.bool p, .slice A l c] 24)).alloc (.cells #[.bool p', .slice A' l' c'] 24)).alloc (.cells #[.bool false, .slice none 0 0] 24)) by ((with_reducible (repeat (first | exact bR _ _ | refine bS ?_ ?_ _ | refine bA ?_ ?_ _ | refine bD ?_ | refine bT ?_ (by assumption) ?_ | refine bO (by assumption) ?_ ?_))) <;> (first | omega | (simp; done) | (simp <;> omega))))
  (refine pin_wp (N := _) (Nat.le_refl _) (fun w1 hb_w1 hz_w1 => ?_); (try simp at hz_w1); (with_reducible apply cel2 (b := w.heap.size) hb_w1); (focus ((try simp) <;> omega)); (focus omega); (focus (go_simp; try exact rfl)); (focus (go_simp; try exact rfl)); (focus (intro o; go_simp)); intro cc cc fz hl; (with_reducible apply cel2 (b := w.heap.size + 1) hb_w1); (focus ((try simp) <;> omega)); (focus omega); (focus (go_simp; try exact rfl)); (focus (go_simp; try exact rfl)); (focus (intro o; go_simp)); intro cc cc fz hl; (with_reducible apply cel2 (b := w.heap.size + 1 + 1) hb_w1); (focus ((try simp) <;> omega)); (focus omega); (focus (go_simp; try exact rfl)); (focus (go_simp; try exact rfl)); (focus (intro o; go_simp)); intro cc cc fz hl); refine wp_region_float w1.heap.size 8 (Nat.le_refl _) (fun _ => True) trivial Cl.tt (by kernel_rfl) (by simp) ?_
  have HB1 := Lib.hid (HB0.out.trans (hb_w1.mono (by simp <;> omega)))
  have hz1 : w.heap.size + 1 + 1 + 1 ≤ w1.heap.size := by omega
  clear hb_w1
  refine wpI_start [0] ?_; (iterate 1 (first | (refine wpI_off rfl (by kernel_rfl) rfl (fun K hK => ?_); go_simp; refine hK _ ?_; clear hK K) | ((first | apply wpI_step rfl (by kernel_rfl) rfl | apply wpI_on rfl (by kernel_rfl) rfl); (focus (intro W' hS; have hcS := hS.cells.1; have hfS := hS.cells.2; go_simp; (first | done | exact rfl | exact ⟨rfl, Below.refl _ _⟩ | (go_simp; first | done | exact rfl | exact ⟨rfl, Below.refl _ _⟩)))); intro K hK; go_simp; (try go_bits); refine hK _ ?_; clear hK K))); refine wpI_nil ?_
  refine wpI_start [2] ?_; (iterate 1 (first | (refine wpI_off rfl (by kernel_rfl) rfl (fun K hK => ?_); go_simp; refine hK _ ?_; clear hK K) | ((first | apply wpI_step rfl (by kernel_rfl) rfl | apply wpI_on rfl (by kernel_rfl) rfl); (focus (intro W' hS; have hcS := hS.cells.1; have hfS := hS.cells.2; go_simp; (first | done | exact rfl | exact ⟨rfl, Below.refl _ _⟩ | (go_simp; first | done | exact rfl | exact ⟨rfl, Below.refl _ _⟩)))); intro K hK; go_simp; (try go_bits); refine hK _ ?_; clear hK K))); refine wpI_nil ?_
  apply wpF_call (i := 1) rfl (by kernel_rfl) (by kernel_rfl); intro W hF hS; have hcS := hS.1.cells.1; have hfS := hS.1.cells.2; go_simp; (go_at_call 85; refine (HMA.out _ (HB1.out.trans (hS.1.2.mono (by omega)))).mono ?_; rintro e w2 ⟨hb_w2, A1, c1, rfl, hc1, hA1⟩; refine XPost.mk _ (fun W => LAt W A1 (canN x)) hb_w2 (hA1) (LAt.cl _ _) ?_); clear hb_w2 hcS hfS hS hF
  intro K hK; go_simp; (try go_bits); refine hK _ ?_; clear hK K
  have HC1 := Lib.hid hc1
  clear hA1 hc1
  apply wpF_call (i := 3) rfl (by kernel_rfl) (by kernel_rfl); intro W hF hS; have hcS := hS.1.cells.1; have hfS := hS.1.cells.2; go_simp; (go_at_call 85; refine (HMB.out _ (HB1.out.trans (hS.1.2.mono (by omega)))).mono ?_; rintro e w3 ⟨hb_w3, A2, c2, rfl, hc2, hA2⟩; refine XPost.mk _ (fun W => LAt W A2 (canN y)) hb_w3 (hA2) (LAt.cl _ _) ?_); clear hb_w3 hcS hfS hS hF
  intro K hK; go_simp; (try go_bits); refine hK _ ?_; clear hK K
  have HC2 := Lib.hid hc2
  clear hA2 hc2
  refine wpF_fresh2 (i := 4) (fun F G G' a h hL w' hF hS => hL w' hF (hS.same (fun p => (h p).symm))) rfl (by kernel_rfl) _ (by intro W; go_simp; first | done | exact rfl) ?_
  intro g_4 hN_4 hG_4 K hK
  go_simp; refine hK _ ?_; clear hK K
  refine wpF_fresh2 (i := 5) (fun F G G' a h hL w' hF hS => hL w' hF (hS.same (fun p => (h p).symm))) rfl (by kernel_rfl) _ (by intro W; go_simp; first | done | exact rfl) ?_
  intro g_5 hN_5 hG_5 K hK
  go_simp; refine hK _ ?_; clear hK K
  have hne : g_4 ≠ g_5 := hG_5 _ (List.mem_cons_self ..)
  apply wpF_wild (i := 6) rfl (by kernel_rfl) (by kernel_rfl); intro W hF hS; have hcS := hS.1.cells.1; have hfS := hS.1.cells.2; have k4 := C2.of_row (hS.2 _ (List.mem_cons_of_mem _ (List.mem_cons_self ..))).2; have k5 := C2.of_row (hS.2 _ (List.mem_cons_self ..)).2; have a0 := k4.1; have a1 := k4.2.1; have a2 := k4.2.2; have a3 := k4.lt; go_simp
  refine WPost.mk _ (fun W' => LAt W' A1 (canN x) ∧ LAt W' A2 (canN y) ∧ C2 W' g_4 (.bool false) (.slice A1 (canN x).length c1) ∧ C2 W' g_5 (.bool false) (.slice none 0 0)) [] ⟨hF.1.set2 a0 a1 _ _, hF.2.set2 a0 a1 _ _, k4.set _ _, k5.far (Ne.symm hne) _ _⟩ ((LAt.cl _ _).and ((LAt.cl _ _).and ((C2.cl _ _ _).and (C2.cl _ _ _)))) ⟨(hS.1.setCell hN_4 _).setCell hN_4 _, fun p hp => by cases hp⟩ ?_
  clear k4 k5 a0 a1 a2 a3 hcS hfS hS hF
  intro K hK; go_simp; refine hK _ ?_; clear hK K
  apply wpF_wild (i := 7) rfl (by kernel_rfl) (by kernel_rfl); intro W hF hS; have hcS := hS.1.cells.1; have hfS := hS.1.cells.2; have k5 := hF.2.2.2; have a0 := k5.1; have a1 := k5.2.1; have a2 := k5.2.2; have a3 := k5.lt; go_simp
  refine WPost.mk _ (fun W' => LAt W' A1 (canN x) ∧ LAt W' A2 (canN y) ∧ C2 W' g_4 (.bool false) (.slice A1 (canN x).length c1) ∧ C2 W' g_5 (.bool false) (.slice A2 (canN y).length c2)) [] ⟨hF.1.set2 a0 a1 _ _, hF.2.1.set2 a0 a1 _ _, hF.2.2.1.far hne _ _, k5.set _ _⟩ ((LAt.cl _ _).and ((LAt.cl _ _).and ((C2.cl _ _ _).and (C2.cl _ _ _)))) ⟨(hS.1.setCell hN_5 _).setCell hN_5 _, fun p hp => by cases hp⟩ ?_
  clear k5 a0 a1 a2 a3 hcS hfS hS hF
  intro K hK; go_simp; refine hK _ ?_; clear hK K
  refine wpF_done (by kernel_rfl) ?_
  intro w4 hF4 hSG
  have HB14 := Lib.hid hSG.1.2
  have HF4 := Lib.hid hF4
  clear hF4 hSG hG_4 hG_5
  (try simp only [List.drop_succ_cons, List.drop_zero])
  go_wp2_with fail
  go_loopg [7] y (fun gk _ wr => ∃ (X Y : Nat) (A B : Option Addr) (c d : Nat), Y = gk ∧ C2 wr g_4 (.bool false) (.slice A (canN X).length c) ∧ C2 wr g_5 (.bool false) (.slice B (canN Y).length d) ∧ Hid (LAt wr A (canN X) ∧ LAt wr B (canN Y) ∧ (canN X).length ≤ c ∧ (canN Y).length ≤ d ∧ G = Nat.gcd X Y) ∧ (canN X).length ≤ n ∧ (canN Y).length ≤ n ∧ Below w1.heap.size w1 wr)
  case atStart => exact ⟨x, y, A1, A2, c1, c2, rfl, HF4.out.2.2.1, HF4.out.2.2.2, Lib.hid ⟨HF4.out.1, HF4.out.2.1, HC1.out, HC2.out, HG.out⟩, by omega, by omega, HB14.out⟩
  case round =>
    obtain ⟨X, Y, A3, B3, c3, d3, hgk, hx2, hy2, HR, lx, ly, hbel⟩ := hrel
    subst hgk
    obtain ⟨wo, rfl⟩ : ∃ wo : World, wo = wr := ⟨_, rfl⟩
    have HX := Lib.hid hx2
    have HY := Lib.hid hy2
    have HBE := Lib.hid hbel
    have hz := hbel.size
    have x1 := hx2.1
    have x2 := hx2.2.1
    have x3 := hx2.2.2
    have x4 := hx2.lt
    have y1 := hy2.1
    have y2 := hy2.2.1
    have y3 := hy2.2.2
    have y4 := hy2.lt
    -- own blocks: w.heap.size + 1 + 1:2
    have hb_wo := hbel
    (with_reducible apply cel2 (b := w.heap.size + 1 + 1) hb_wo); (focus ((try simp) <;> omega)); (focus omega); (focus (go_simp; try exact rfl)); (focus (go_simp; try exact rfl)); (focus (intro o; go_simp)); intro cc cc fz hl
    clear hb_wo hbel hx2 hy2
    by_cases h0 : Y = 0
    · have hl0 : (canN Y).length = 0 := canN_len0.2 h0
      have e0 : ¬ (0 : Int) < ((canN Y).length : Int) := by omega
      have hg : G = X := by rw [HR.out.2.2.2.2, h0, Nat.gcd_zero_right]
      subst hg
      clear hl0 h0
      go_wp2_with fail
      refine bodyPost_ret (v := .agg #[.bool false, .slice A3 (canN G).length c3]) (by simp only [results, Try.results64]; go_simp) rfl ⟨?_, ?_⟩
      · exact ((HB1.out.trans (HBE.out.mono (by omega))).setCell (by simp <;> omega) _).setCell (by simp <;> omega) _
      · exact ⟨A3, c3, rfl, HR.out.2.2.1, HR.out.1.set2 (by assumption) (by assumption) _ _⟩
    · have hl0 : (canN Y).length ≠ 0 := fun e => h0 (canN_len0.1 e)
      have e0 : (0 : Int) < ((canN Y).length : Int) := by omega
      by_cases h2 : (canN X).length ≤ 2 ∧ (canN Y).length ≤ 2
      · obtain ⟨h2, h3⟩ := h2
        have e2 : ((canN X).length : Int) ≤ 2 := by omega
        have e3 : ((canN Y).length : Int) ≤ 2 := by omega
        clear h0 hl0
        go_wp2_with fail
        -- own blocks besides: g_4:2, g_5:2
        (refine pin_wp (N := _) (Nat.le_refl _) (fun w9 hb_w9 hz_w9 => ?_); (try simp at hz_w9); (with_reducible apply cel2 (b := w.heap.size + 1 + 1) hb_w9); (focus ((try simp) <;> omega)); (focus omega); (focus (go_simp; try exact rfl)); (focus (go_simp; try exact rfl)); (focus (intro o; go_simp)); intro cc cc fz hl; (with_reducible apply cel2 (b := g_4) hb_w9); (focus ((try simp) <;> omega)); (focus omega); (focus (go_simp; try exact rfl)); (focus (go_simp; try exact rfl)); (focus (intro o; go_simp)); intro cc cc fz hl; (with_reducible apply cel2 (b := g_5) hb_w9); (focus ((try simp) <;> omega)); (focus omega); (focus (go_simp; try exact rfl)); (focus (go_simp; try exact rfl)); (focus (intro o; go_simp)); intro cc cc fz hl); refine wp_region_float w9.heap.size 6 (Nat.le_refl _) (fun _ => True) trivial Cl.tt (by kernel_rfl) (by simp) ?_
        have HXA := Lib.hid (HR.out.1.below hb_w9)
        have HYA := Lib.hid (HR.out.2.1.below hb_w9)
        have HB9 := Lib.hid (HBE.out.trans (hb_w9.mono hz))
        have H23 := Lib.hid (And.intro h2 h3)
        clear hb_w9 x1 x2 x3 x4 y1 y2 y3 y4
        refine wpI_start [0] ?_; (iterate 1 (first | (refine wpI_off rfl (by kernel_rfl) rfl (fun K hK => ?_); go_simp; refine hK _ ?_; clear hK K) | ((first | apply wpI_step rfl (by kernel_rfl) rfl | apply wpI_on rfl (by kernel_rfl) rfl); (focus (intro W' hS; have hcS := hS.cells.1; have hfS := hS.cells.2; go_simp; (first | done | exact rfl | exact ⟨rfl, Below.refl _ _⟩ | (go_simp; first | done | exact rfl | exact ⟨rfl, Below.refl _ _⟩)))); intro K hK; go_simp; (try go_bits); refine hK _ ?_; clear hK K))); refine wpI_nil ?_
        refine wpI_start [2] ?_; (iterate 1 (first | (refine wpI_off rfl (by kernel_rfl) rfl (fun K hK => ?_); go_simp; refine hK _ ?_; clear hK K) | ((first | apply wpI_step rfl (by kernel_rfl) rfl | apply wpI_on rfl (by kernel_rfl) rfl); (focus (intro W' hS; have hcS := hS.cells.1; have hfS := hS.cells.2; go_simp; (first | done | exact rfl | exact ⟨rfl, Below.refl _ _⟩ | (go_simp; first | done | exact rfl | exact ⟨rfl, Below.refl _ _⟩)))); intro K hK; go_simp; (try go_bits); refine hK _ ?_; clear hK K))); refine wpI_nil ?_
        refine wpI_start [1] ?_; (iterate 1 (first | (refine wpI_off rfl (by kernel_rfl) rfl (fun K hK => ?_); go_simp; refine hK _ ?_; clear hK K) | ((first | apply wpI_step rfl (by kernel_rfl) rfl | apply wpI_on rfl (by kernel_rfl) rfl); (focus (intro W' hS; have hcS := hS.cells.1; have hfS := hS.cells.2; go_simp; (first | done | exact rfl | exact ⟨rfl, Below.refl _ _⟩ | (go_at_call 88; exact (wasuint_nat A3 X c3 _ (HXA.out.own hS (Nat.le_refl _)) H23.out.1).mono (fun _ _ h => ⟨h.1, h.2⟩)) | (go_simp; first | done | exact rfl | exact ⟨rfl, Below.refl _ _⟩)))); intro K hK; go_simp; (try go_bits); refine hK _ ?_; clear hK K))); refine wpI_nil ?_
        refine wpI_start [3] ?_; (iterate 1 (first | (refine wpI_off rfl (by kernel_rfl) rfl (fun K hK => ?_); go_simp; refine hK _ ?_; clear hK K) | ((first | apply wpI_step rfl (by kernel_rfl) rfl | apply wpI_on rfl (by kernel_rfl) rfl); (focus (intro W' hS; have hcS := hS.cells.1; have hfS := hS.cells.2; go_simp; (first | done | exact rfl | exact ⟨rfl, Below.refl _ _⟩ | (go_at_call 88; exact (wasuint_nat B3 Y d3 _ (HYA.out.own hS (Nat.le_refl _)) H23.out.2).mono (fun _ _ h => ⟨h.1, h.2⟩)) | (go_simp; first | done | exact rfl | exact ⟨rfl, Below.refl _ _⟩)))); intro K hK; go_simp; (try go_bits); refine hK _ ?_; clear hK K))); refine wpI_nil ?_
        refine wpI_start [4] ?_; (iterate 1 (first | (refine wpI_off rfl (by kernel_rfl) rfl (fun K hK => ?_); go_simp; refine hK _ ?_; clear hK K) | ((first | apply wpI_step rfl (by kernel_rfl) rfl | apply wpI_on rfl (by kernel_rfl) rfl); (focus (intro W' hS; have hcS := hS.cells.1; have hfS := hS.cells.2; go_simp; (first | done | exact rfl | exact ⟨rfl, Below.refl _ _⟩ | (go_at_call 87; exact (wgcduint_nat X Y _ H23.out.1 H23.out.2).mono (fun _ _ h => ⟨h.1, h.2⟩)) | (go_simp; first | done | exact rfl | exact ⟨rfl, Below.refl _ _⟩)))); intro K hK; go_simp; (try go_bits); refine hK _ ?_; clear hK K))); refine wpI_nil ?_
        apply wpF_call (i := 5) rfl (by kernel_rfl) (by kernel_rfl); intro W hF hS; have hcS := hS.1.cells.1; have hfS := hS.1.cells.2; go_simp; (go_at_call 86; refine (wofuint_nat (Nat.gcd X Y) _ (gcd_two H23.out.1 H23.out.2)).mono ?_; rintro e w10 ⟨hb_w10, A5, c5, rfl, hc5, hA5⟩; refine XPost.mk _ (fun W => LAt W A5 (canN (Nat.gcd X Y))) hb_w10 (hA5) (LAt.cl _ _) ?_); clear hb_w10 hcS hfS hS hF
        intro K hK; go_simp; (try go_bits); refine hK _ ?_; clear hK K
        have HC5 := Lib.hid hc5
        clear hA5 hc5
        refine wpF_done (by kernel_rfl) ?_
        intro w11 hF_w11 hSG
        have hz_w11 := hSG.1.1
        have hb_w11 := hSG.1.2
        clear hSG
        (with_reducible apply cel2 (b := w.heap.size + 1 + 1) hb_w11); (focus ((try simp) <;> omega)); (focus omega); (focus (go_simp; try exact rfl)); (focus (go_simp; try exact rfl)); (focus (intro o; go_simp)); intro cc cc fz hl; (with_reducible apply cel2 (b := g_4) hb_w11); (focus ((try simp) <;> omega)); (focus omega); (focus (go_simp; try exact rfl)); (focus (go_simp; try exact rfl)); (focus (intro o; go_simp)); intro cc cc fz hl; (with_reducible apply cel2 (b := g_5) hb_w11); (focus ((try simp) <;> omega)); (focus omega); (focus (go_simp; try exact rfl)); (focus (go_simp; try exact rfl)); (focus (intro o; go_simp)); intro cc cc fz hl
        (try simp only [List.drop_succ_cons, List.drop_zero])
        have HB11 := Lib.hid (HB9.out.trans (hb_w11.mono HB9.out.size))
        have HA5 := Lib.hid hF_w11
        clear hb_w11 hF_w11
        go_wp2_with fail
        refine bodyPost_ret (v := .agg #[.bool false, .slice A5 (canN (Nat.gcd X Y)).length c5]) (by simp only [results, Try.results64]; go_simp) rfl ⟨?_, ?_⟩
        · exact ((HB1.out.trans (HB11.out.mono (by omega))).setCell (by simp <;> omega) _).setCell (by simp <;> omega) _
        · rw [HR.out.2.2.2.2]
          exact ⟨A5, c5, rfl, HC5.out, HA5.out.set2 (by assumption) (by assumption) _ _⟩
      · by_cases h3 : (canN X).length ≤ 2
        · have e2 : ((canN X).length : Int) ≤ 2 := by omega
          have e3 : decide (((canN Y).length : Int) ≤ 2) = false := by rw [decide_eq_false_iff_not]; omega
          go_wp2_with fail
          -- own blocks: w.heap.size + 1 + 1:2, g_4:2, g_5:2
          (go_at_call 61; refine ((wquo_any n _ _ X Y wo (isZ_nat HR.out.1 HR.out.2.2.1 lx) (isZ_nat HR.out.2.1 HR.out.2.2.2.1 ly) hn (by omega)).mono (fun _ _ h => h.nat)).mono ?_; rintro e w9 ⟨hb_w9, A5, c5, A6, c6, rfl, hc5, hc6, hA5, hA6⟩; have hz_w9 := hb_w9.size; (try simp at hz_w9); (with_reducible apply cel2 (b := w.heap.size + 1 + 1) hb_w9); (focus ((try simp) <;> omega)); (focus omega); (focus (go_simp; try exact rfl)); (focus (go_simp; try exact rfl)); (focus (intro o; go_simp)); intro cc cc fz hl; (with_reducible apply cel2 (b := g_4) hb_w9); (focus ((try simp) <;> omega)); (focus omega); (focus (go_simp; try exact rfl)); (focus (go_simp; try exact rfl)); (focus (intro o; go_simp)); intro cc cc fz hl; (with_reducible apply cel2 (b := g_5) hb_w9); (focus ((try simp) <;> omega)); (focus omega); (focus (go_simp; try exact rfl)); (focus (go_simp; try exact rfl)); (focus (intro o; go_simp)); intro cc cc fz hl)
          have HA6 := Lib.hid hA6
          have HC6 := Lib.hid hc6
          have HBY := Lib.hid (HR.out.2.1.below hb_w9)
          have HX9 := Lib.hid (HX.out.below hb_w9)
          have HY9 := Lib.hid (HY.out.below hb_w9)
          have HB9 := Lib.hid (HBE.out.trans (hb_w9.mono hz))
          clear hA5 hA6 hc5 hc6 hb_w9 x1 x2 x3 x4 y1 y2 y3 y4
          go_wp2_with fail
          have HRC := Lib.hid (show C2 ((w9.alloc (.cells #[.bool false, .slice A5 (canN (X / Y)).length c5] 24)).alloc (.cells #[.bool false, .slice A6 (canN (X % Y)).length c6] 24)) (w9.heap.size + 1) (.bool false) (.slice A6 (canN (X % Y)).length c6) from C2.of_row (by have h := heap_alloc_new (w9.alloc (.cells #[.bool false, .slice A5 (canN (X / Y)).length c5] 24)) (.cells #[.bool false, .slice A6 (canN (X % Y)).length c6] 24); simpa using h))
          have hbb : Below w9.heap.size w9 ((w9.alloc (.cells #[.bool false, .slice A5 (canN (X / Y)).length c5] 24)).alloc (.cells #[.bool false, .slice A6 (canN (X % Y)).length c6] 24)) := ((Below.refl _ _).alloc (Nat.le_refl _) _).alloc (by simp) _
          have HX10 := Lib.hid (HX9.out.below hbb)
          have HY10 := Lib.hid (HY9.out.below hbb)
          have HBY10 := Lib.hid (HBY.out.below hbb)
          have HA10 := Lib.hid (HA6.out.below hbb)
          have hz9 := HB9.out.size
          have HB10 := Lib.hid (HB9.out.trans (hbb.mono hz9))
          clear hbb
          refine pin_wp (N := _) (Nat.le_refl _) (fun w10 hb_w10 hz_w10 => ?_)
          have HRC := Lib.hid (HRC.out.below hb_w10)
          have HX10 := Lib.hid (HX10.out.below hb_w10)
          have HY10 := Lib.hid (HY10.out.below hb_w10)
          have HBY10 := Lib.hid (HBY10.out.below hb_w10)
          have HA10 := Lib.hid (HA10.out.below hb_w10)
          have HB10 := Lib.hid (HB10.out.trans (hb_w10.mono (by simp; omega)))
          have n1 : g_4 ≠ w9.heap.size + 1 := by have := HX9.out.lt; omega
          have n2 : g_5 ≠ w9.heap.size + 1 := by have := HY9.out.lt; omega
          have x1 := HX10.out.1
          have x2 := HX10.out.2.1
          have x3 := HX10.out.2.2
          have x4 := HX10.out.lt
          have y1 := HY10.out.1
          have y2 := HY10.out.2.1
          have y3 := HY10.out.2.2
          have y4 := HY10.out.lt
          have r1 := HRC.out.1
          have r2 := HRC.out.2.1
          have r3 := HRC.out.2.2
          have r4 := HRC.out.lt
          clear hb_w10 hz_w10
          go_region
          go_wp2_with fail
          go_roundg (X % Y)
          case measure => exact Nat.mod_lt _ (by omega)
          case rel =>
            have k1 := HY10.out.far (Ne.symm hne) (.bool false) (.slice B3 (canN Y).length d3)
            exact ⟨Y, X % Y, B3, A6, d3, c6, rfl, (HX10.out.set _ _).far hne _ _, k1.set _ _, Lib.hid ⟨(HBY10.out.set2 x1 x2 _ _).set2 k1.1 k1.2.1 _ _, (HA10.out.set2 x1 x2 _ _).set2 k1.1 k1.2.1 _ _, HR.out.2.2.2.1, HC6.out, by rw [HR.out.2.2.2.2, Nat.gcd_comm X Y, Nat.gcd_rec, Nat.gcd_comm]⟩, ly, Nat.le_trans (canN_mono (Nat.mod_le _ _)) lx, by have hb := ((((HB10.out.setCell (p := ⟨g_4, 0, none⟩) hN_4 (.bool false)).setCell (p := ⟨g_4, 1, none⟩) hN_4 (.slice B3 (canN Y).length d3)).setCell (p := ⟨g_5, 0, none⟩) hN_5 (.bool false)).setCell (p := ⟨g_5, 1, none⟩) hN_5 (.slice A6 (canN (X % Y)).length c6)); first | exact hb | exact hb.drew⟩
        · have e2 : decide (((canN X).length : Int) ≤ 2) = false := by rw [decide_eq_false_iff_not]; omega
          go_wp2_with fail
          -- own blocks: w.heap.size + 1 + 1:2, g_4:2, g_5:2
          (go_at_call 61; refine ((wquo_any n _ _ X Y wo (isZ_nat HR.out.1 HR.out.2.2.1 lx) (isZ_nat HR.out.2.1 HR.out.2.2.2.1 ly) hn (by omega)).mono (fun _ _ h => h.nat)).mono ?_; rintro e w9 ⟨hb_w9, A5, c5, A6, c6, rfl, hc5, hc6, hA5, hA6⟩; have hz_w9 := hb_w9.size; (try simp at hz_w9); (with_reducible apply cel2 (b := w.heap.size + 1 + 1) hb_w9); (focus ((try simp) <;> omega)); (focus omega); (focus (go_simp; try exact rfl)); (focus (go_simp; try exact rfl)); (focus (intro o; go_simp)); intro cc cc fz hl; (with_reducible apply cel2 (b := g_4) hb_w9); (focus ((try simp) <;> omega)); (focus omega); (focus (go_simp; try exact rfl)); (focus (go_simp; try exact rfl)); (focus (intro o; go_simp)); intro cc cc fz hl; (with_reducible apply cel2 (b := g_5) hb_w9); (focus ((try simp) <;> omega)); (focus omega); (focus (go_simp; try exact rfl)); (focus (go_simp; try exact rfl)); (focus (intro o; go_simp)); intro cc cc fz hl)
          have HA6 := Lib.hid hA6
          have HC6 := Lib.hid hc6
          have HBY := Lib.hid (HR.out.2.1.below hb_w9)
          have HX9 := Lib.hid (HX.out.below hb_w9)
          have HY9 := Lib.hid (HY.out.below hb_w9)
          have HB9 := Lib.hid (HBE.out.trans (hb_w9.mono hz))
          clear hA5 hA6 hc5 hc6 hb_w9 x1 x2 x3 x4 y1 y2 y3 y4
          go_wp2_with fail
          have HRC := Lib.hid (show C2 ((w9.alloc (.cells #[.bool false, .slice A5 (canN (X / Y)).length c5] 24)).alloc (.cells #[.bool false, .slice A6 (canN (X % Y)).length c6] 24)) (w9.heap.size + 1) (.bool false) (.slice A6 (canN (X % Y)).length c6) from C2.of_row (by have h := heap_alloc_new (w9.alloc (.cells #[.bool false, .slice A5 (canN (X / Y)).length c5] 24)) (.cells #[.bool false, .slice A6 (canN (X % Y)).length c6] 24); simpa using h))
          have hbb : Below w9.heap.size w9 ((w9.alloc (.cells #[.bool false, .slice A5 (canN (X / Y)).length c5] 24)).alloc (.cells #[.bool false, .slice A6 (canN (X % Y)).length c6] 24)) := ((Below.refl _ _).alloc (Nat.le_refl _) _).alloc (by simp) _
          have HX10 := Lib.hid (HX9.out.below hbb)
          have HY10 := Lib.hid (HY9.out.below hbb)
          have HBY10 := Lib.hid (HBY.out.below hbb)
          have HA10 := Lib.hid (HA6.out.below hbb)
          have hz9 := HB9.out.size
          have HB10 := Lib.hid (HB9.out.trans (hbb.mono hz9))
          clear hbb
          refine pin_wp (N := _) (Nat.le_refl _) (fun w10 hb_w10 hz_w10 => ?_)
          have HRC := Lib.hid (HRC.out.below hb_w10)
          have HX10 := Lib.hid (HX10.out.below hb_w10)
          have HY10 := Lib.hid (HY10.out.below hb_w10)
          have HBY10 := Lib.hid (HBY10.out.below hb_w10)
          have HA10 := Lib.hid (HA10.out.below hb_w10)
          have HB10 := Lib.hid (HB10.out.trans (hb_w10.mono (by simp; omega)))
          have n1 : g_4 ≠ w9.heap.size + 1 := by have := HX9.out.lt; omega
          have n2 : g_5 ≠ w9.heap.size + 1 := by have := HY9.out.lt; omega
          have x1 := HX10.out.1
          have x2 := HX10.out.2.1
          have x3 := HX10.out.2.2
          have x4 := HX10.out.lt
          have y1 := HY10.out.1
          have y2 := HY10.out.2.1
          have y3 := HY10.out.2.2
          have y4 := HY10.out.lt
          have r1 := HRC.out.1
          have r2 := HRC.out.2.1
          have r3 := HRC.out.2.2
          have r4 := HRC.out.lt
          clear hb_w10 hz_w10
          go_region
          go_wp2_with fail
          go_roundg (X % Y)
          case measure => exact Nat.mod_lt _ (by omega)
          case rel =>
            have k1 := HY10.out.far (Ne.symm hne) (.bool false) (.slice B3 (canN Y).length d3)
            exact ⟨Y, X % Y, B3, A6, d3, c6, rfl, (HX10.out.set _ _).far hne _ _, k1.set _ _, Lib.hid ⟨(HBY10.out.set2 x1 x2 _ _).set2 k1.1 k1.2.1 _ _, (HA10.out.set2 x1 x2 _ _).set2 k1.1 k1.2.1 _ _, HR.out.2.2.2.1, HC6.out, by rw [HR.out.2.2.2.2, Nat.gcd_comm X Y, Nat.gcd_rec, Nat.gcd_comm]⟩, ly, Nat.le_trans (canN_mono (Nat.mod_le _ _)) lx, by have hb := ((((HB10.out.setCell (p := ⟨g_4, 0, none⟩) hN_4 (.bool false)).setCell (p := ⟨g_4, 1, none⟩) hN_4 (.slice B3 (canN Y).length d3)).setCell (p := ⟨g_5, 0, none⟩) hN_5 (.bool false)).setCell (p := ⟨g_5, 1, none⟩) hN_5 (.slice A6 (canN (X % Y)).length c6)); first | exact hb | exact hb.drew⟩
end Go.Proofs.Ytadkcipjcmkoiaa
