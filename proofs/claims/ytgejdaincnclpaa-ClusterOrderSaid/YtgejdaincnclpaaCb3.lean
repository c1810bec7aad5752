/- Merged texts: Wg RsB DrawR RsL RsC RsD (what no proof of the claim needs is left out). -/
import Derived.Test.YtgejdaincnclpaaCb2
import Derived.RegionTactic
import Derived.ChangeAlike
import Derived.Lib.Hide
import Derived.BigCall
namespace Go.Proofs.Ytgejdaincnclpaa
open Go Go.RowKit
set_option linter.unusedVariables false
theorem PB_pow (k : Nat) : PB k = 2 ^ (32 * k) := by
  unfold PB
  rw [show (4294967296 : Int) = 2 ^ 32 from rfl, ← Int.pow_mul]
set_option maxRecDepth 100000 in
set_option maxHeartbeats 2000000 in
theorem wasuint_any (p : Bool) (A : Option Addr) (l : List Int) (c : Nat) (w : World) (hL : Lim l) (hA : LAt w A l) (hl : l.length ≤ 2) :
    Calls Try.prog 83 #[.agg #[.bool p, .slice A l.length c]] w fun e w' => e = .returned (.int .u64 (mv l)) ∧ Below w.heap.size w w' := by
  have HL := Lib.hid hL
  have HA := Lib.hid (hA.alloc (.cells #[.bool p, .slice A l.length c] 49))
  clear hL hA
  go_enter Try.func83, Try.ntmps83; (try simp only [List.append_eq, List.cons_append, List.nil_append])
  go_wp2_with fail
  have HB := Lib.hid (show Below w.heap.size w (w.alloc (.cells #[.bool p, .slice A l.length c] 49)) by ((with_reducible (repeat (first | exact bR _ _ | refine bS ?_ ?_ _ | refine bA ?_ ?_ _ | refine bD ?_ | refine bT ?_ (by assumption) ?_ | refine bO (by assumption) ?_ ?_))) <;> (first | omega | (simp; done) | (simp <;> omega))))
  go_loop [3, 4, 5, 9] (fun vn _ _ vi => ∃ (k : Nat) (n : Int), k ≤ l.length ∧ vi = .int .i64 k ∧ vn = .int .u64 n ∧ Hid (n = mv (l.take k))) (fun _ _ _ vi => l.length - (intOf vi).toNat)
  case atStart => exact ⟨0, 0, by omega, rfl, rfl, Lib.hid (by simp [mv])⟩
  case round =>
    obtain ⟨k, n, hk, rfl, rfl, HN⟩ := hrel
    have i1 : (0 : Int) ≤ (k : Int) := by omega
    by_cases hkl : k < l.length
    · obtain ⟨x, hx⟩ : ∃ x, l[k]? = some x := ⟨l[k], by simp⟩
      obtain ⟨g, o, rfl, hg, hcell⟩ := HA.out k x hx
      obtain ⟨x0, x1⟩ := HL.out.get hx
      have j1 : (k : Int) < (l.length : Int) := by omega
      have hk1 : k ≤ 1 := by omega
      obtain ⟨m, hm⟩ : ∃ m, m = 32 * k := ⟨_, rfl⟩
      have e1 : (32 : Int) * (k : Int) = (m : Int) := by omega
      have e2 : min m 64 = m := by omega
      have m0 : (0 : Int) ≤ (m : Int) := by omega
      have m1 : (m : Int) ≤ 32 := by omega
      have hP : PB k = 2 ^ m := by rw [hm]; exact PB_pow k
      have hP1 : PB k = 1 ∨ PB k = 4294967296 := by
        have : k = 0 ∨ k = 1 := by omega
        rcases this with h | h
        · left; rw [h]; rfl
        · right; rw [h]; rfl
      obtain ⟨S, hS⟩ : ∃ S, S = x * PB k := ⟨_, rfl⟩
      have S0 : 0 ≤ S := by rw [hS]; exact Int.mul_nonneg x0 (by omega)
      have S1 : S < 18446744073709551616 := by
        rw [hS]
        rcases hP1 with h | h
        · rw [h]; omega
        · rw [h]; omega
      have n0 : 0 ≤ n := by rw [HN.out]; exact mv_nonneg (HL.out.take k)
      have n1 : n < PB k := by
        have h := mv_lt (HL.out.take k)
        rw [List.length_take, Nat.min_eq_left hk] at h
        rw [HN.out]; exact h
      have hw : IntKind.u64.wrap (x * 2 ^ m) = S := by rw [← hP, ← hS]; exact wraps_u64' S S0 S1
      have hor : bits .or .u64 n S = n + S := by
        refine bits_join_low .u64 64 (by decide) wraps_u64' m n S n0 (by rw [← hP]; exact n1) (by omega) S0 ?_ S1
        rw [hS, hP]
        exact Int.mul_emod_left _ _
      have HST := Lib.hid (show n + S = mv (l.take (k + 1)) by rw [mv_take_succ hx, HN.out, hS, Int.mul_comm])
      clear hx hm hP hP1 hS n1
      go_wp2_with fail
      go_round
      case rel => exact ⟨k + 1, n + S, by omega, by go_num, rfl, HST⟩
      case measure => simp [intOf]; omega
    · obtain rfl : k = l.length := by omega
      have hf : n = mv l := by rw [HN.out, List.take_length]
      have HF := Lib.hid hf
      have j5 : ¬ (l.length : Int) < (l.length : Int) := by omega
      clear hf
      go_wp2_with fail
      go_ret
      exact ⟨by rw [HF.out]; rfl, HB.out⟩
theorem C2.of_row {W : World} {g : Nat} {u v : Value} {T : TypeId} (h : W.heap[g]? = some (.cells #[u, v] T)) : C2 W g u v :=
  ⟨(cell_of_row W g 0 _ _ _ h).trans rfl, (cell_of_row W g 1 _ _ _ h).trans rfl, fun o => frozen_of_row W g o _ _ h⟩
theorem C2.below {W W' : World} {b : Nat} {u v : Value} (h : C2 W b u v) (hb : Below W.heap.size W W') : C2 W' b u v := C2.cl b u v W W' h hb
/-- The result of a function that hands back a natural number. -/
def NOut (X : Nat) (w : World) (e : Ending) (w' : World) : Prop := Below w.heap.size w w' ∧ ∃ A c, e = .returned (.agg #[.bool false, .slice A (canN X).length c]) ∧ (canN X).length ≤ c ∧ LAt w' A (canN X)
theorem ZOut.nat {X : Nat} {w w' : World} {e : Ending} (h : ZOut (X : Int) w e w') : NOut X w e w' := by
  obtain ⟨hb, v, rfl, A, c, rfl, hc, hA⟩ := h
  have e1 : decide ((X : Int) < 0) = false := by simp
  rw [Int.natAbs_natCast] at hc hA
  rw [Int.natAbs_natCast, e1]
  exact ⟨hb, A, c, rfl, hc, hA⟩
theorem NOut.z {X : Nat} {w w' : World} {e : Ending} (h : NOut X w e w') : ZOut (X : Int) w e w' := by
  obtain ⟨hb, A, c, rfl, hc, hA⟩ := h
  exact ⟨hb, _, rfl, A, c, by rw [Int.natAbs_natCast, show decide ((X : Int) < 0) = false by simp], by rw [Int.natAbs_natCast]; exact hc, by rw [Int.natAbs_natCast]; exact hA⟩
theorem dec_nat (k : Nat) : decide ((k : Int) < 0) = false := by rw [decide_eq_false_iff_not]; omega
/-- The quotient and the remainder of natural numbers. -/
def NDOut (q r : Nat) (w : World) (e : Ending) (w' : World) : Prop := Below w.heap.size w w' ∧ ∃ A c B d, e = .returned (.tuple #[.agg #[.bool false, .slice A (canN q).length c], .agg #[.bool false, .slice B (canN r).length d]]) ∧ (canN q).length ≤ c ∧ (canN r).length ≤ d ∧ LAt w' A (canN q) ∧ LAt w' B (canN r)
theorem DOut.nat {X Y : Nat} {w w' : World} {e : Ending} (h : DOut ((X : Int).tdiv Y) ((X : Int).tmod Y) w e w') : NDOut (X / Y) (X % Y) w e w' := by
  have e1 : (X : Int).tdiv Y = ((X / Y : Nat) : Int) := rfl
  have e2 : (X : Int).tmod Y = ((X % Y : Nat) : Int) := rfl
  rw [e1, e2] at h
  obtain ⟨hb, _, _, rfl, ⟨A, c, rfl, hc, hA⟩, ⟨B, d, rfl, hd, hB⟩⟩ := h
  rw [Int.natAbs_natCast] at hc hA hd hB
  rw [Int.natAbs_natCast, Int.natAbs_natCast, show decide (((X / Y : Nat) : Int) < 0) = false from dec_nat _, show decide (((X % Y : Nat) : Int) < 0) = false from dec_nat _]
  exact ⟨hb, A, c, B, d, rfl, hc, hd, hA, hB⟩
theorem isZ_nat {w : World} {A : Option Addr} {X c n : Nat} (hA : LAt w A (canN X)) (hc : (canN X).length ≤ c) (hn : (canN X).length ≤ n) : IsZ w (.agg #[.bool false, .slice A (canN X).length c]) n X := IsZ.pos hA hc hn
theorem wasuint_nat (A : Option Addr) (X c : Nat) (w : World) (hA : LAt w A (canN X)) (hl : (canN X).length ≤ 2) :
    Calls Try.prog 83 #[.agg #[.bool false, .slice A (canN X).length c]] w fun e w' => e = .returned (.int .u64 (X : Int)) ∧ Below w.heap.size w w' := by
  have := wasuint_any false A (canN X) c w (canN_lim X) hA hl
  rwa [mv_canN] at this
theorem word_of_two {X : Nat} (h : (canN X).length ≤ 2) : (X : Int) < 18446744073709551616 := by
  have := canN_len.1 h
  have e : PB 2 = 18446744073709551616 := by decide
  rwa [e] at this
theorem wgcduint_nat (X Y : Nat) (w : World) (hX : (canN X).length ≤ 2) (hY : (canN Y).length ≤ 2) :
    Calls Try.prog 82 #[.int .u64 (X : Int), .int .u64 (Y : Int)] w fun e w' => e = .returned (.int .u64 (Nat.gcd X Y : Nat)) ∧ Below w.heap.size w w' := by
  have := wgcduint_any X Y w (by omega) (word_of_two hX) (by omega) (word_of_two hY)
  rwa [Int.toNat_natCast, Int.toNat_natCast] at this
theorem gcd_two {X Y : Nat} (hX : (canN X).length ≤ 2) (hY : (canN Y).length ≤ 2) : (canN (Nat.gcd X Y)).length ≤ 2 := by
  rcases Nat.eq_zero_or_pos X with h | h
  · subst h; rw [Nat.gcd_zero_left]; exact hY
  · exact Nat.le_trans (canN_mono (Nat.gcd_le_left Y h)) hX
theorem wofuint_nat (X : Nat) (w : World) (hX : (canN X).length ≤ 2) : Calls Try.prog 81 #[.int .u64 (X : Int)] w (NOut X w) :=
  (wofuint_any X w (by omega) (word_of_two hX)).mono fun _ _ h => h.nat
set_option maxRecDepth 100000 in
set_option maxHeartbeats 4000000 in
theorem wgcd_any (n : Nat) (u v : Value) (a b : Int) (w : World) (ha : IsZ w u n a) (hb : IsZ w v n b) (hn : n ≤ 200000) :
    Calls Try.prog 69 #[u, v] w (NOut (Nat.gcd a.natAbs b.natAbs) w) := by
  have HA := Lib.hid ha
  have HB := Lib.hid hb
  have la := isZ_len ha
  have lb := isZ_len hb
  obtain ⟨p, A, c, l, rfl⟩ := isZ_val ha
  obtain ⟨p', A', c', l', rfl⟩ := isZ_val hb
  obtain ⟨x, hx⟩ : ∃ x, x = a.natAbs := ⟨_, rfl⟩
  obtain ⟨y, hy⟩ : ∃ y, y = b.natAbs := ⟨_, rfl⟩
  have hma := fun w' (h : Below w.heap.size w w') => (wabs_any n _ a w' (HA.out.below h) (by omega)).mono fun _ _ h => h.nat
  have hmb := fun w' (h : Below w.heap.size w w') => (wabs_any n _ b w' (HB.out.below h) (by omega)).mono fun _ _ h => h.nat
  rw [← hx] at hma la
  rw [← hy] at hmb lb
  rw [← hx, ← hy]
  obtain ⟨G, hG⟩ : ∃ G, G = Nat.gcd x y := ⟨_, rfl⟩
  rw [← hG]
  have HG := Lib.hid hG
  have HMA := Lib.hid hma
  have HMB := Lib.hid hmb
  clear ha hb hma hmb hx hy hG HA HB
  go_enter Try.func69, Try.ntmps69; (try simp only [List.append_eq, List.cons_append, List.nil_append])
  go_wp2_with fail
  -- own blocks: w.heap.size:2, w.heap.size + 1:2, w.heap.size + 1 + 1:2
  have HB0 := Lib.hid (show Below w.heap.size w (((w.alloc (.cells #[.bool p, .slice A l c] 49)).alloc (.cells #[.bool p', .slice A' l' c'] 49)).alloc (.cells #[.bool false, .slice none 0 0] 49)) by ((with_reducible (repeat (first | exact bR _ _ | refine bS ?_ ?_ _ | refine bA ?_ ?_ _ | refine bD ?_ | refine bT ?_ (by assumption) ?_ | refine bO (by assumption) ?_ ?_))) <;> (first | omega | (simp; done) | (simp <;> omega))))
  (refine pin_wp (N := _) (Nat.le_refl _) (fun w1 hb_w1 hz_w1 => ?_); (try simp at hz_w1); (with_reducible apply cel2 (b := w.heap.size) hb_w1); (focus ((try simp) <;> omega)); (focus omega); (focus (go_simp; try exact rfl)); (focus (go_simp; try exact rfl)); (focus (intro o; go_simp)); intro cc cc fz hl; (with_reducible apply cel2 (b := w.heap.size + 1) hb_w1); (focus ((try simp) <;> omega)); (focus omega); (focus (go_simp; try exact rfl)); (focus (go_simp; try exact rfl)); (focus (intro o; go_simp)); intro cc cc fz hl; (with_reducible apply cel2 (b := w.heap.size + 1 + 1) hb_w1); (focus ((try simp) <;> omega)); (focus omega); (focus (go_simp; try exact rfl)); (focus (go_simp; try exact rfl)); (focus (intro o; go_simp)); intro cc cc fz hl); refine wp_region_float w1.heap.size 8 (Nat.le_refl _) (fun _ => True) trivial Cl.tt (by kernel_rfl) (by simp) ?_
  have HB1 := Lib.hid (HB0.out.trans (hb_w1.mono (by simp <;> omega)))
  have hz1 : w.heap.size + 1 + 1 + 1 ≤ w1.heap.size := by omega
  clear hb_w1
  refine wpI_start [0] ?_; (iterate 1 (first | (refine wpI_off rfl (by kernel_rfl) rfl (fun K hK => ?_); go_simp; refine hK _ ?_; clear hK K) | ((first | apply wpI_step rfl (by kernel_rfl) rfl | apply wpI_on rfl (by kernel_rfl) rfl); (focus (intro W' hS; have hcS := hS.cells.1; have hfS := hS.cells.2; go_simp; (first | done | exact rfl | exact ⟨rfl, Below.refl _ _⟩ | (go_simp; first | done | exact rfl | exact ⟨rfl, Below.refl _ _⟩)))); intro K hK; go_simp; (try go_bits); refine hK _ ?_; clear hK K))); refine wpI_nil ?_
  refine wpI_start [2] ?_; (iterate 1 (first | (refine wpI_off rfl (by kernel_rfl) rfl (fun K hK => ?_); go_simp; refine hK _ ?_; clear hK K) | ((first | apply wpI_step rfl (by kernel_rfl) rfl | apply wpI_on rfl (by kernel_rfl) rfl); (focus (intro W' hS; have hcS := hS.cells.1; have hfS := hS.cells.2; go_simp; (first | done | exact rfl | exact ⟨rfl, Below.refl _ _⟩ | (go_simp; first | done | exact rfl | exact ⟨rfl, Below.refl _ _⟩)))); intro K hK; go_simp; (try go_bits); refine hK _ ?_; clear hK K))); refine wpI_nil ?_
  apply wpF_call (i := 1) rfl (by kernel_rfl) (by kernel_rfl); intro W hF hS; have hcS := hS.1.cells.1; have hfS := hS.1.cells.2; go_simp; (go_at_call 80; refine (HMA.out _ (HB1.out.trans (hS.1.2.mono (by omega)))).mono ?_; rintro e w2 ⟨hb_w2, A1, c1, rfl, hc1, hA1⟩; refine XPost.mk _ (fun W => LAt W A1 (canN x)) hb_w2 (hA1) (LAt.cl _ _) ?_); clear hb_w2 hcS hfS hS hF
  intro K hK; go_simp; (try go_bits); refine hK _ ?_; clear hK K
  have HC1 := Lib.hid hc1
  clear hA1 hc1
  apply wpF_call (i := 3) rfl (by kernel_rfl) (by kernel_rfl); intro W hF hS; have hcS := hS.1.cells.1; have hfS := hS.1.cells.2; go_simp; (go_at_call 80; refine (HMB.out _ (HB1.out.trans (hS.1.2.mono (by omega)))).mono ?_; rintro e w3 ⟨hb_w3, A2, c2, rfl, hc2, hA2⟩; refine XPost.mk _ (fun W => LAt W A2 (canN y)) hb_w3 (hA2) (LAt.cl _ _) ?_); clear hb_w3 hcS hfS hS hF
  intro K hK; go_simp; (try go_bits); refine hK _ ?_; clear hK K
  have HC2 := Lib.hid hc2
  clear hA2 hc2
  refine wpF_fresh2 (i := 4) (fun F G G' a h hL w' hF hS => hL w' hF (hS.same (fun p => (h p).symm))) rfl (by kernel_rfl) _ (by intro W; go_simp; first | done | exact rfl) ?_
  intro g_4 hN_4 hG_4 K hK
  go_simp; refine hK _ ?_; clear hK K
  refine wpF_fresh2 (i := 5) (fun F G G' a h hL w' hF hS => hL w' hF (hS.same (fun p => (h p).symm))) rfl (by kernel_rfl) _ (by intro W; go_simp; first | done | exact rfl) ?_
  intro g_5 hN_5 hG_5 K hK
  go_simp; refine hK _ ?_; clear hK K
  have hne : g_4 ≠ g_5 := hG_5 _ (List.mem_cons_self ..)
  apply wpF_wild (i := 6) rfl (by kernel_rfl) (by kernel_rfl); intro W hF hS; have hcS := hS.1.cells.1; have hfS := hS.1.cells.2; have k4 := C2.of_row (hS.2 _ (List.mem_cons_of_mem _ (List.mem_cons_self ..))).2; have k5 := C2.of_row (hS.2 _ (List.mem_cons_self ..)).2; have a0 := k4.1; have a1 := k4.2.1; have a2 := k4.2.2; have a3 := k4.lt; go_simp
  refine WPost.mk _ (fun W' => LAt W' A1 (canN x) ∧ LAt W' A2 (canN y) ∧ C2 W' g_4 (.bool false) (.slice A1 (canN x).length c1) ∧ C2 W' g_5 (.bool false) (.slice none 0 0)) [] ⟨hF.1.set2 a0 a1 _ _, hF.2.set2 a0 a1 _ _, k4.set _ _, k5.far (Ne.symm hne) _ _⟩ ((LAt.cl _ _).and ((LAt.cl _ _).and ((C2.cl _ _ _).and (C2.cl _ _ _)))) ⟨(hS.1.setCell hN_4 _).setCell hN_4 _, fun p hp => by cases hp⟩ ?_
  clear k4 k5 a0 a1 a2 a3 hcS hfS hS hF
  intro K hK; go_simp; refine hK _ ?_; clear hK K
  apply wpF_wild (i := 7) rfl (by kernel_rfl) (by kernel_rfl); intro W hF hS; have hcS := hS.1.cells.1; have hfS := hS.1.cells.2; have k5 := hF.2.2.2; have a0 := k5.1; have a1 := k5.2.1; have a2 := k5.2.2; have a3 := k5.lt; go_simp
  refine WPost.mk _ (fun W' => LAt W' A1 (canN x) ∧ LAt W' A2 (canN y) ∧ C2 W' g_4 (.bool false) (.slice A1 (canN x).length c1) ∧ C2 W' g_5 (.bool false) (.slice A2 (canN y).length c2)) [] ⟨hF.1.set2 a0 a1 _ _, hF.2.1.set2 a0 a1 _ _, hF.2.2.1.far hne _ _, k5.set _ _⟩ ((LAt.cl _ _).and ((LAt.cl _ _).and ((C2.cl _ _ _).and (C2.cl _ _ _)))) ⟨(hS.1.setCell hN_5 _).setCell hN_5 _, fun p hp => by cases hp⟩ ?_
  clear k5 a0 a1 a2 a3 hcS hfS hS hF
  intro K hK; go_simp; refine hK _ ?_; clear hK K
  refine wpF_done (by kernel_rfl) ?_
  intro w4 hF4 hSG
  have HB14 := Lib.hid hSG.1.2
  have HF4 := Lib.hid hF4
  clear hF4 hSG hG_4 hG_5
  (try simp only [List.drop_succ_cons, List.drop_zero])
  go_wp2_with fail
  go_loopg [7] y (fun gk _ wr => ∃ (X Y : Nat) (A B : Option Addr) (c d : Nat), Y = gk ∧ C2 wr g_4 (.bool false) (.slice A (canN X).length c) ∧ C2 wr g_5 (.bool false) (.slice B (canN Y).length d) ∧ Hid (LAt wr A (canN X) ∧ LAt wr B (canN Y) ∧ (canN X).length ≤ c ∧ (canN Y).length ≤ d ∧ G = Nat.gcd X Y) ∧ (canN X).length ≤ n ∧ (canN Y).length ≤ n ∧ Below w1.heap.size w1 wr)
  case atStart => exact ⟨x, y, A1, A2, c1, c2, rfl, HF4.out.2.2.1, HF4.out.2.2.2, Lib.hid ⟨HF4.out.1, HF4.out.2.1, HC1.out, HC2.out, HG.out⟩, by omega, by omega, HB14.out⟩
  case round =>
    obtain ⟨X, Y, A3, B3, c3, d3, hgk, hx2, hy2, HR, lx, ly, hbel⟩ := hrel
    subst hgk
    obtain ⟨wo, rfl⟩ : ∃ wo : World, wo = wr := ⟨_, rfl⟩
    have HX := Lib.hid hx2
    have HY := Lib.hid hy2
    have HBE := Lib.hid hbel
    have hz := hbel.size
    have x1 := hx2.1
    have x2 := hx2.2.1
    have x3 := hx2.2.2
    have x4 := hx2.lt
    have y1 := hy2.1
    have y2 := hy2.2.1
    have y3 := hy2.2.2
    have y4 := hy2.lt
    -- own blocks: w.heap.size + 1 + 1:2
    have hb_wo := hbel
    (with_reducible apply cel2 (b := w.heap.size + 1 + 1) hb_wo); (focus ((try simp) <;> omega)); (focus omega); (focus (go_simp; try exact rfl)); (focus (go_simp; try exact rfl)); (focus (intro o; go_simp)); intro cc cc fz hl
    clear hb_wo hbel hx2 hy2
    by_cases h0 : Y = 0
    · have hl0 : (canN Y).length = 0 := canN_len0.2 h0
      have e0 : ¬ (0 : Int) < ((canN Y).length : Int) := by omega
      have hg : G = X := by rw [HR.out.2.2.2.2, h0, Nat.gcd_zero_right]
      subst hg
      clear hl0 h0
      go_wp2_with fail
      refine bodyPost_ret (v := .agg #[.bool false, .slice A3 (canN G).length c3]) (by simp only [results, Try.results69]; go_simp) rfl ⟨?_, ?_⟩
      · exact ((HB1.out.trans (HBE.out.mono (by omega))).setCell (by simp <;> omega) _).setCell (by simp <;> omega) _
      · exact ⟨A3, c3, rfl, HR.out.2.2.1, HR.out.1.set2 (by assumption) (by assumption) _ _⟩
    · have hl0 : (canN Y).length ≠ 0 := fun e => h0 (canN_len0.1 e)
      have e0 : (0 : Int) < ((canN Y).length : Int) := by omega
      by_cases h2 : (canN X).length ≤ 2 ∧ (canN Y).length ≤ 2
      · obtain ⟨h2, h3⟩ := h2
        have e2 : ((canN X).length : Int) ≤ 2 := by omega
        have e3 : ((canN Y).length : Int) ≤ 2 := by omega
        clear h0 hl0
        go_wp2_with fail
        -- own blocks besides: g_4:2, g_5:2
        (refine pin_wp (N := _) (Nat.le_refl _) (fun w9 hb_w9 hz_w9 => ?_); (try simp at hz_w9); (with_reducible apply cel2 (b := w.heap.size + 1 + 1) hb_w9); (focus ((try simp) <;> omega)); (focus omega); (focus (go_simp; try exact rfl)); (focus (go_simp; try exact rfl)); (focus (intro o; go_simp)); intro cc cc fz hl; (with_reducible apply cel2 (b := g_4) hb_w9); (focus ((try simp) <;> omega)); (focus omega); (focus (go_simp; try exact rfl)); (focus (go_simp; try exact rfl)); (focus (intro o; go_simp)); intro cc cc fz hl; (with_reducible apply cel2 (b := g_5) hb_w9); (focus ((try simp) <;> omega)); (focus omega); (focus (go_simp; try exact rfl)); (focus (go_simp; try exact rfl)); (focus (intro o; go_simp)); intro cc cc fz hl); refine wp_region_float w9.heap.size 6 (Nat.le_refl _) (fun _ => True) trivial Cl.tt (by kernel_rfl) (by simp) ?_
        have HXA := Lib.hid (HR.out.1.below hb_w9)
        have HYA := Lib.hid (HR.out.2.1.below hb_w9)
        have HB9 := Lib.hid (HBE.out.trans (hb_w9.mono hz))
        have H23 := Lib.hid (And.intro h2 h3)
        clear hb_w9 x1 x2 x3 x4 y1 y2 y3 y4
        refine wpI_start [0] ?_; (iterate 1 (first | (refine wpI_off rfl (by kernel_rfl) rfl (fun K hK => ?_); go_simp; refine hK _ ?_; clear hK K) | ((first | apply wpI_step rfl (by kernel_rfl) rfl | apply wpI_on rfl (by kernel_rfl) rfl); (focus (intro W' hS; have hcS := hS.cells.1; have hfS := hS.cells.2; go_simp; (first | done | exact rfl | exact ⟨rfl, Below.refl _ _⟩ | (go_simp; first | done | exact rfl | exact ⟨rfl, Below.refl _ _⟩)))); intro K hK; go_simp; (try go_bits); refine hK _ ?_; clear hK K))); refine wpI_nil ?_
        refine wpI_start [2] ?_; (iterate 1 (first | (refine wpI_off rfl (by kernel_rfl) rfl (fun K hK => ?_); go_simp; refine hK _ ?_; clear hK K) | ((first | apply wpI_step rfl (by kernel_rfl) rfl | apply wpI_on rfl (by kernel_rfl) rfl); (focus (intro W' hS; have hcS := hS.cells.1; have hfS := hS.cells.2; go_simp; (first | done | exact rfl | exact ⟨rfl, Below.refl _ _⟩ | (go_simp; first | done | exact rfl | exact ⟨rfl, Below.refl _ _⟩)))); intro K hK; go_simp; (try go_bits); refine hK _ ?_; clear hK K))); refine wpI_nil ?_
        refine wpI_start [1] ?_; (iterate 1 (first | (refine wpI_off rfl (by kernel_rfl) rfl (fun K hK => ?_); go_simp; refine hK _ ?_; clear hK K) | ((first | apply wpI_step rfl (by kernel_rfl) rfl | apply wpI_on rfl (by kernel_rfl) rfl); (focus (intro W' hS; have hcS := hS.cells.1; have hfS := hS.cells.2; go_simp; (first | done | exact rfl | exact ⟨rfl, Below.refl _ _⟩ | (go_at_call 83; exact (wasuint_nat A3 X c3 _ (HXA.out.own hS (Nat.le_refl _)) H23.out.1).mono (fun _ _ h => ⟨h.1, h.2⟩)) | (go_simp; first | done | exact rfl | exact ⟨rfl, Below.refl _ _⟩)))); intro K hK; go_simp; (try go_bits); refine hK _ ?_; clear hK K))); refine wpI_nil ?_
        refine wpI_start [3] ?_; (iterate 1 (first | (refine wpI_off rfl (by kernel_rfl) rfl (fun K hK => ?_); go_simp; refine hK _ ?_; clear hK K) | ((first | apply wpI_step rfl (by kernel_rfl) rfl | apply wpI_on rfl (by kernel_rfl) rfl); (focus (intro W' hS; have hcS := hS.cells.1; have hfS := hS.cells.2; go_simp; (first | done | exact rfl | exact ⟨rfl, Below.refl _ _⟩ | (go_at_call 83; exact (wasuint_nat B3 Y d3 _ (HYA.out.own hS (Nat.le_refl _)) H23.out.2).mono (fun _ _ h => ⟨h.1, h.2⟩)) | (go_simp; first | done | exact rfl | exact ⟨rfl, Below.refl _ _⟩)))); intro K hK; go_simp; (try go_bits); refine hK _ ?_; clear hK K))); refine wpI_nil ?_
        refine wpI_start [4] ?_; (iterate 1 (first | (refine wpI_off rfl (by kernel_rfl) rfl (fun K hK => ?_); go_simp; refine hK _ ?_; clear hK K) | ((first | apply wpI_step rfl (by kernel_rfl) rfl | apply wpI_on rfl (by kernel_rfl) rfl); (focus (intro W' hS; have hcS := hS.cells.1; have hfS := hS.cells.2; go_simp; (first | done | exact rfl | exact ⟨rfl, Below.refl _ _⟩ | (go_at_call 82; exact (wgcduint_nat X Y _ H23.out.1 H23.out.2).mono (fun _ _ h => ⟨h.1, h.2⟩)) | (go_simp; first | done | exact rfl | exact ⟨rfl, Below.refl _ _⟩)))); intro K hK; go_simp; (try go_bits); refine hK _ ?_; clear hK K))); refine wpI_nil ?_
        apply wpF_call (i := 5) rfl (by kernel_rfl) (by kernel_rfl); intro W hF hS; have hcS := hS.1.cells.1; have hfS := hS.1.cells.2; go_simp; (go_at_call 81; refine (wofuint_nat (Nat.gcd X Y) _ (gcd_two H23.out.1 H23.out.2)).mono ?_; rintro e w10 ⟨hb_w10, A5, c5, rfl, hc5, hA5⟩; refine XPost.mk _ (fun W => LAt W A5 (canN (Nat.gcd X Y))) hb_w10 (hA5) (LAt.cl _ _) ?_); clear hb_w10 hcS hfS hS hF
        intro K hK; go_simp; (try go_bits); refine hK _ ?_; clear hK K
        have HC5 := Lib.hid hc5
        clear hA5 hc5
        refine wpF_done (by kernel_rfl) ?_
        intro w11 hF_w11 hSG
        have hz_w11 := hSG.1.1
        have hb_w11 := hSG.1.2
        clear hSG
        (with_reducible apply cel2 (b := w.heap.size + 1 + 1) hb_w11); (focus ((try simp) <;> omega)); (focus omega); (focus (go_simp; try exact rfl)); (focus (go_simp; try exact rfl)); (focus (intro o; go_simp)); intro cc cc fz hl; (with_reducible apply cel2 (b := g_4) hb_w11); (focus ((try simp) <;> omega)); (focus omega); (focus (go_simp; try exact rfl)); (focus (go_simp; try exact rfl)); (focus (intro o; go_simp)); intro cc cc fz hl; (with_reducible apply cel2 (b := g_5) hb_w11); (focus ((try simp) <;> omega)); (focus omega); (focus (go_simp; try exact rfl)); (focus (go_simp; try exact rfl)); (focus (intro o; go_simp)); intro cc cc fz hl
        (try simp only [List.drop_succ_cons, List.drop_zero])
        have HB11 := Lib.hid (HB9.out.trans (hb_w11.mono HB9.out.size))
        have HA5 := Lib.hid hF_w11
        clear hb_w11 hF_w11
        go_wp2_with fail
        refine bodyPost_ret (v := .agg #[.bool false, .slice A5 (canN (Nat.gcd X Y)).length c5]) (by simp only [results, Try.results69]; go_simp) rfl ⟨?_, ?_⟩
        · exact ((HB1.out.trans (HB11.out.mono (by omega))).setCell (by simp <;> omega) _).setCell (by simp <;> omega) _
        · rw [HR.out.2.2.2.2]
          exact ⟨A5, c5, rfl, HC5.out, HA5.out.set2 (by assumption) (by assumption) _ _⟩
      · by_cases h3 : (canN X).length ≤ 2
        · have e2 : ((canN X).length : Int) ≤ 2 := by omega
          have e3 : decide (((canN Y).length : Int) ≤ 2) = false := by rw [decide_eq_false_iff_not]; omega
          go_wp2_with fail
          -- own blocks: w.heap.size + 1 + 1:2, g_4:2, g_5:2
          (go_at_call 44; refine ((wquo_any n _ _ X Y wo (isZ_nat HR.out.1 HR.out.2.2.1 lx) (isZ_nat HR.out.2.1 HR.out.2.2.2.1 ly) hn (by omega)).mono (fun _ _ h => h.nat)).mono ?_; rintro e w9 ⟨hb_w9, A5, c5, A6, c6, rfl, hc5, hc6, hA5, hA6⟩; have hz_w9 := hb_w9.size; (try simp at hz_w9); (with_reducible apply cel2 (b := w.heap.size + 1 + 1) hb_w9); (focus ((try simp) <;> omega)); (focus omega); (focus (go_simp; try exact rfl)); (focus (go_simp; try exact rfl)); (focus (intro o; go_simp)); intro cc cc fz hl; (with_reducible apply cel2 (b := g_4) hb_w9); (focus ((try simp) <;> omega)); (focus omega); (focus (go_simp; try exact rfl)); (focus (go_simp; try exact rfl)); (focus (intro o; go_simp)); intro cc cc fz hl; (with_reducible apply cel2 (b := g_5) hb_w9); (focus ((try simp) <;> omega)); (focus omega); (focus (go_simp; try exact rfl)); (focus (go_simp; try exact rfl)); (focus (intro o; go_simp)); intro cc cc fz hl)
          have HA6 := Lib.hid hA6
          have HC6 := Lib.hid hc6
          have HBY := Lib.hid (HR.out.2.1.below hb_w9)
          have HX9 := Lib.hid (HX.out.below hb_w9)
          have HY9 := Lib.hid (HY.out.below hb_w9)
          have HB9 := Lib.hid (HBE.out.trans (hb_w9.mono hz))
          clear hA5 hA6 hc5 hc6 hb_w9 x1 x2 x3 x4 y1 y2 y3 y4
          go_wp2_with fail
          have HRC := Lib.hid (show C2 ((w9.alloc (.cells #[.bool false, .slice A5 (canN (X / Y)).length c5] 49)).alloc (.cells #[.bool false, .slice A6 (canN (X % Y)).length c6] 49)) (w9.heap.size + 1) (.bool false) (.slice A6 (canN (X % Y)).length c6) from C2.of_row (by have h := heap_alloc_new (w9.alloc (.cells #[.bool false, .slice A5 (canN (X / Y)).length c5] 49)) (.cells #[.bool false, .slice A6 (canN (X % Y)).length c6] 49); simpa using h))
          have hbb : Below w9.heap.size w9 ((w9.alloc (.cells #[.bool false, .slice A5 (canN (X / Y)).length c5] 49)).alloc (.cells #[.bool false, .slice A6 (canN (X % Y)).length c6] 49)) := ((Below.refl _ _).alloc (Nat.le_refl _) _).alloc (by simp) _
          have HX10 := Lib.hid (HX9.out.below hbb)
          have HY10 := Lib.hid (HY9.out.below hbb)
          have HBY10 := Lib.hid (HBY.out.below hbb)
          have HA10 := Lib.hid (HA6.out.below hbb)
          have hz9 := HB9.out.size
          have HB10 := Lib.hid (HB9.out.trans (hbb.mono hz9))
          clear hbb
          refine pin_wp (N := _) (Nat.le_refl _) (fun w10 hb_w10 hz_w10 => ?_)
          have HRC := Lib.hid (HRC.out.below hb_w10)
          have HX10 := Lib.hid (HX10.out.below hb_w10)
          have HY10 := Lib.hid (HY10.out.below hb_w10)
          have HBY10 := Lib.hid (HBY10.out.below hb_w10)
          have HA10 := Lib.hid (HA10.out.below hb_w10)
          have HB10 := Lib.hid (HB10.out.trans (hb_w10.mono (by simp; omega)))
          have n1 : g_4 ≠ w9.heap.size + 1 := by have := HX9.out.lt; omega
          have n2 : g_5 ≠ w9.heap.size + 1 := by have := HY9.out.lt; omega
          have x1 := HX10.out.1
          have x2 := HX10.out.2.1
          have x3 := HX10.out.2.2
          have x4 := HX10.out.lt
          have y1 := HY10.out.1
          have y2 := HY10.out.2.1
          have y3 := HY10.out.2.2
          have y4 := HY10.out.lt
          have r1 := HRC.out.1
          have r2 := HRC.out.2.1
          have r3 := HRC.out.2.2
          have r4 := HRC.out.lt
          clear hb_w10 hz_w10
          go_region
          go_wp2_with fail
          go_roundg (X % Y)
          case measure => exact Nat.mod_lt _ (by omega)
          case rel =>
            have k1 := HY10.out.far (Ne.symm hne) (.bool false) (.slice B3 (canN Y).length d3)
            exact ⟨Y, X % Y, B3, A6, d3, c6, rfl, (HX10.out.set _ _).far hne _ _, k1.set _ _, Lib.hid ⟨(HBY10.out.set2 x1 x2 _ _).set2 k1.1 k1.2.1 _ _, (HA10.out.set2 x1 x2 _ _).set2 k1.1 k1.2.1 _ _, HR.out.2.2.2.1, HC6.out, by rw [HR.out.2.2.2.2, Nat.gcd_comm X Y, Nat.gcd_rec, Nat.gcd_comm]⟩, ly, Nat.le_trans (canN_mono (Nat.mod_le _ _)) lx, by have hb := ((((HB10.out.setCell (p := ⟨g_4, 0, none⟩) hN_4 (.bool false)).setCell (p := ⟨g_4, 1, none⟩) hN_4 (.slice B3 (canN Y).length d3)).setCell (p := ⟨g_5, 0, none⟩) hN_5 (.bool false)).setCell (p := ⟨g_5, 1, none⟩) hN_5 (.slice A6 (canN (X % Y)).length c6)); first | exact hb | exact hb.drew⟩
        · have e2 : decide (((canN X).length : Int) ≤ 2) = false := by rw [decide_eq_false_iff_not]; omega
          go_wp2_with fail
          -- own blocks: w.heap.size + 1 + 1:2, g_4:2, g_5:2
          (go_at_call 44; refine ((wquo_any n _ _ X Y wo (isZ_nat HR.out.1 HR.out.2.2.1 lx) (isZ_nat HR.out.2.1 HR.out.2.2.2.1 ly) hn (by omega)).mono (fun _ _ h => h.nat)).mono ?_; rintro e w9 ⟨hb_w9, A5, c5, A6, c6, rfl, hc5, hc6, hA5, hA6⟩; have hz_w9 := hb_w9.size; (try simp at hz_w9); (with_reducible apply cel2 (b := w.heap.size + 1 + 1) hb_w9); (focus ((try simp) <;> omega)); (focus omega); (focus (go_simp; try exact rfl)); (focus (go_simp; try exact rfl)); (focus (intro o; go_simp)); intro cc cc fz hl; (with_reducible apply cel2 (b := g_4) hb_w9); (focus ((try simp) <;> omega)); (focus omega); (focus (go_simp; try exact rfl)); (focus (go_simp; try exact rfl)); (focus (intro o; go_simp)); intro cc cc fz hl; (with_reducible apply cel2 (b := g_5) hb_w9); (focus ((try simp) <;> omega)); (focus omega); (focus (go_simp; try exact rfl)); (focus (go_simp; try exact rfl)); (focus (intro o; go_simp)); intro cc cc fz hl)
          have HA6 := Lib.hid hA6
          have HC6 := Lib.hid hc6
          have HBY := Lib.hid (HR.out.2.1.below hb_w9)
          have HX9 := Lib.hid (HX.out.below hb_w9)
          have HY9 := Lib.hid (HY.out.below hb_w9)
          have HB9 := Lib.hid (HBE.out.trans (hb_w9.mono hz))
          clear hA5 hA6 hc5 hc6 hb_w9 x1 x2 x3 x4 y1 y2 y3 y4
          go_wp2_with fail
          have HRC := Lib.hid (show C2 ((w9.alloc (.cells #[.bool false, .slice A5 (canN (X / Y)).length c5] 49)).alloc (.cells #[.bool false, .slice A6 (canN (X % Y)).length c6] 49)) (w9.heap.size + 1) (.bool false) (.slice A6 (canN (X % Y)).length c6) from C2.of_row (by have h := heap_alloc_new (w9.alloc (.cells #[.bool false, .slice A5 (canN (X / Y)).length c5] 49)) (.cells #[.bool false, .slice A6 (canN (X % Y)).length c6] 49); simpa using h))
          have hbb : Below w9.heap.size w9 ((w9.alloc (.cells #[.bool false, .slice A5 (canN (X / Y)).length c5] 49)).alloc (.cells #[.bool false, .slice A6 (canN (X % Y)).length c6] 49)) := ((Below.refl _ _).alloc (Nat.le_refl _) _).alloc (by simp) _
          have HX10 := Lib.hid (HX9.out.below hbb)
          have HY10 := Lib.hid (HY9.out.below hbb)
          have HBY10 := Lib.hid (HBY.out.below hbb)
          have HA10 := Lib.hid (HA6.out.below hbb)
          have hz9 := HB9.out.size
          have HB10 := Lib.hid (HB9.out.trans (hbb.mono hz9))
          clear hbb
          refine pin_wp (N := _) (Nat.le_refl _) (fun w10 hb_w10 hz_w10 => ?_)
          have HRC := Lib.hid (HRC.out.below hb_w10)
          have HX10 := Lib.hid (HX10.out.below hb_w10)
          have HY10 := Lib.hid (HY10.out.below hb_w10)
          have HBY10 := Lib.hid (HBY10.out.below hb_w10)
          have HA10 := Lib.hid (HA10.out.below hb_w10)
          have HB10 := Lib.hid (HB10.out.trans (hb_w10.mono (by simp; omega)))
          have n1 : g_4 ≠ w9.heap.size + 1 := by have := HX9.out.lt; omega
          have n2 : g_5 ≠ w9.heap.size + 1 := by have := HY9.out.lt; omega
          have x1 := HX10.out.1
          have x2 := HX10.out.2.1
          have x3 := HX10.out.2.2
          have x4 := HX10.out.lt
          have y1 := HY10.out.1
          have y2 := HY10.out.2.1
          have y3 := HY10.out.2.2
          have y4 := HY10.out.lt
          have r1 := HRC.out.1
          have r2 := HRC.out.2.1
          have r3 := HRC.out.2.2
          have r4 := HRC.out.lt
          clear hb_w10 hz_w10
          go_region
          go_wp2_with fail
          go_roundg (X % Y)
          case measure => exact Nat.mod_lt _ (by omega)
          case rel =>
            have k1 := HY10.out.far (Ne.symm hne) (.bool false) (.slice B3 (canN Y).length d3)
            exact ⟨Y, X % Y, B3, A6, d3, c6, rfl, (HX10.out.set _ _).far hne _ _, k1.set _ _, Lib.hid ⟨(HBY10.out.set2 x1 x2 _ _).set2 k1.1 k1.2.1 _ _, (HA10.out.set2 x1 x2 _ _).set2 k1.1 k1.2.1 _ _, HR.out.2.2.2.1, HC6.out, by rw [HR.out.2.2.2.2, Nat.gcd_comm X Y, Nat.gcd_rec, Nat.gcd_comm]⟩, ly, Nat.le_trans (canN_mono (Nat.mod_le _ _)) lx, by have hb := ((((HB10.out.setCell (p := ⟨g_4, 0, none⟩) hN_4 (.bool false)).setCell (p := ⟨g_4, 1, none⟩) hN_4 (.slice B3 (canN Y).length d3)).setCell (p := ⟨g_5, 0, none⟩) hN_5 (.bool false)).setCell (p := ⟨g_5, 1, none⟩) hN_5 (.slice A6 (canN (X % Y)).length c6)); first | exact hb | exact hb.drew⟩
end Go.Proofs.Ytgejdaincnclpaa
namespace Go.Proofs.Ytgejdaincnclpaa
open Go Go.RowKit
set_option linter.unusedVariables false
def RAt (w : World) (v : Value) (x y d : Int) : Prop := ∃ s1 A1 n1 c1 s2 A2 n2 c2 s3 A3 n3 c3, v = .agg #[.bool s1, .slice A1 n1 c1, .bool s2, .slice A2 n2 c2, .bool s3, .slice A3 n3 c3] ∧ IsC w (.agg #[.bool s1, .slice A1 n1 c1]) x ∧ IsC w (.agg #[.bool s2, .slice A2 n2 c2]) y ∧ IsC w (.agg #[.bool s3, .slice A3 n3 c3]) d
def ROut (x y d : Int) (w : World) (e : Ending) (w' : World) : Prop := Below w.heap.size w w' ∧ ∃ v, e = .returned v ∧ RAt w' v x y d
theorem RAt.below {w w1 : World} {v : Value} {x y d : Int} (h : RAt w v x y d) (hb : Below w.heap.size w w1) : RAt w1 v x y d := by
  obtain ⟨s1, A1, n1, c1, s2, A2, n2, c2, s3, A3, n3, c3, hv, h1, h2, h3⟩ := h
  exact ⟨s1, A1, n1, c1, s2, A2, n2, c2, s3, A3, n3, c3, hv, h1.below hb, h2.below hb, h3.below hb⟩
theorem RAt.cl (v : Value) (x y d : Int) : Cl (fun w => RAt w v x y d) := fun _ _ h hb => h.below hb
theorem gcdN_len {a b n : Nat} (ha : (canN a).length ≤ n) (hb : (canN b).length ≤ n) : (canN (Nat.gcd a b)).length ≤ n := by
  rcases Nat.eq_zero_or_pos a with h | h
  · subst h; rwa [Nat.gcd_zero_left]
  · have h1 := Nat.gcd_le_left b h
    refine canN_len.2 (Int.lt_of_le_of_lt ?_ (canN_len.1 ha))
    exact Int.ofNat_le.2 h1
def lowG (x y d : Int) : Nat := Nat.gcd (Nat.gcd x.natAbs y.natAbs) d.natAbs
theorem IsC.al {w : World} {v : Value} {z : Int} (h : IsC w v z) (o : Obj) : IsC (w.alloc o) v z := h.below ((Below.refl _ _).alloc (Nat.le_refl _) _)
theorem IsC.st1 {w : World} {v : Value} {z : Int} (h : IsC w v z) {p : Addr} {u : Value} (hp : w.cell? p = some u) (hu : ∀ x, u ≠ .int .u32 x) (x : Value) : IsC (w.setCell p x) v z := by
  obtain ⟨A, c, hv, hc, hA⟩ := h
  exact ⟨A, c, hv, hc, hA.setCell hp hu x⟩
theorem IsC.val {w : World} {v : Value} {z : Int} (h : IsC w v z) : ∃ s A n c, v = .agg #[.bool s, .slice A n c] := by
  obtain ⟨A, c, hv, _, _⟩ := h
  exact ⟨_, _, _, _, hv⟩
theorem RAt.val {w : World} {v : Value} {x y d : Int} (h : RAt w v x y d) : ∃ s1 A1 n1 c1 s2 A2 n2 c2 s3 A3 n3 c3, v = .agg #[.bool s1, .slice A1 n1 c1, .bool s2, .slice A2 n2 c2, .bool s3, .slice A3 n3 c3] := by
  obtain ⟨s1, A1, n1, c1, s2, A2, n2, c2, s3, A3, n3, c3, hv, _⟩ := h
  exact ⟨s1, A1, n1, c1, s2, A2, n2, c2, s3, A3, n3, c3, hv⟩
theorem RAt.al {w : World} {v : Value} {x y d : Int} (h : RAt w v x y d) (o : Obj) : RAt (w.alloc o) v x y d := h.below ((Below.refl _ _).alloc (Nat.le_refl _) _)
theorem RAt.st1 {w : World} {v : Value} {x y d : Int} (h : RAt w v x y d) {p : Addr} {u : Value} (hp : w.cell? p = some u) (hu : ∀ x, u ≠ .int .u32 x) (t : Value) : RAt (w.setCell p t) v x y d := by
  obtain ⟨s1, A1, n1, c1, s2, A2, n2, c2, s3, A3, n3, c3, hv, h1, h2, h3⟩ := h
  exact ⟨s1, A1, n1, c1, s2, A2, n2, c2, s3, A3, n3, c3, hv, h1.st1 hp hu t, h2.st1 hp hu t, h3.st1 hp hu t⟩
theorem RAt.parts {w : World} {b1 a1 b2 a2 b3 a3 : Value} {x y d : Int} (h : RAt w (.agg #[b1, a1, b2, a2, b3, a3]) x y d) : IsC w (.agg #[b1, a1]) x ∧ IsC w (.agg #[b2, a2]) y ∧ IsC w (.agg #[b3, a3]) d := by
  obtain ⟨s1, A1, n1, c1, s2, A2, n2, c2, s3, A3, n3, c3, hv, h1, h2, h3⟩ := h
  simp only [Value.agg.injEq, Array.mk.injEq, List.cons.injEq, and_true] at hv
  obtain ⟨rfl, rfl, rfl, rfl, rfl, rfl⟩ := hv
  exact ⟨h1, h2, h3⟩
theorem RAt.px {w : World} {b1 a1 b2 a2 b3 a3 : Value} {x y d : Int} (h : RAt w (.agg #[b1, a1, b2, a2, b3, a3]) x y d) : IsC w (.agg #[b1, a1]) x := h.parts.1
theorem RAt.py {w : World} {b1 a1 b2 a2 b3 a3 : Value} {x y d : Int} (h : RAt w (.agg #[b1, a1, b2, a2, b3, a3]) x y d) : IsC w (.agg #[b2, a2]) y := h.parts.2.1
theorem RAt.pd {w : World} {b1 a1 b2 a2 b3 a3 : Value} {x y d : Int} (h : RAt w (.agg #[b1, a1, b2, a2, b3, a3]) x y d) : IsC w (.agg #[b3, a3]) d := h.parts.2.2
theorem canN_bd {z : Int} {k : Nat} {B : Int} (h1 : -B ≤ z) (h2 : z ≤ B) (hB : B < PB k) : (canN z.natAbs).length ≤ k := canN_len.2 (by omega)
theorem mulB (x y A B : Int) (h1 : -A ≤ x ∧ x ≤ A) (h2 : -B ≤ y ∧ y ≤ B) : -(A * B) ≤ x * y ∧ x * y ≤ A * B := mul_bd x y A B h1.1 h1.2 h2.1 h2.2
theorem len_wd {z : Int} (h1 : -9223372036854775808 ≤ z) (h2 : z ≤ 9223372036854775807) : (canN z.natAbs).length ≤ 10 := canN_bd (B := 9223372036854775808) (by omega) (by omega) (by decide)
/-- Two Ratios. -/
def RROut (x y d x' y' d' : Int) (w : World) (e : Ending) (w' : World) : Prop := Below w.heap.size w w' ∧ ∃ u v, e = .returned (.tuple #[u, v]) ∧ RAt w' u x y d ∧ RAt w' v x' y' d'
end Go.Proofs.Ytgejdaincnclpaa
namespace Go.Proofs.Ytgejdaincnclpaa
open Go Go.RowKit
set_option linter.unusedVariables false
section
variable {P : Program} {ops : Array Oper} {md : Region.Mode} {N : Nat} {W0 : World}
def waitsJ (md : Region.Mode) (ops : Array Oper) : Nat → Nat → Nat → Bool
  | 0, _, _ => false
  | f + 1, t, i => match ops[t]? with
    | some o => (o.after.any fun e => Region.binds md e && e.on == i) || o.after.any fun e => Region.binds md e && waitsJ md ops f e.on i
    | none => false
/-- What is listed lists all that it waits for. -/
def DC (md : Region.Mode) (ops : Array Oper) (listed : Array Bool) : Prop := ∀ j o, ops[j]? = some o → listed.getD j false = true → ∀ e ∈ o.after, Region.binds md e = true → listed.getD e.on false = true
def dcB (md : Region.Mode) (ops : Array Oper) (listed : Array Bool) : Bool := (List.range ops.size).all fun j => match ops[j]? with
  | some o => !listed.getD j false || o.after.all fun e => !Region.binds md e || listed.getD e.on false
  | none => true
theorem dcB_spec {listed : Array Bool} (h : dcB md ops listed = true) : DC md ops listed := fun j o hj hl e he hb => by
  simp only [dcB, List.all_eq_true, List.mem_range] at h
  have h1 := h j (Array.getElem?_eq_some_iff.1 hj).1
  simp only [hj, hl, Bool.not_true, Bool.false_or] at h1
  have h2 := Array.all_eq_true'.1 h1 e he
  simpa [hb] using h2
theorem getD_set_mono {listed : Array Bool} {i k : Nat} (h : listed.getD k false = true) : (listed.setIfInBounds i true).getD k false = true := by
  simp only [Array.getD_eq_getD_getElem?, Array.getElem?_setIfInBounds] at *
  split
  · split <;> simp_all
  · exact h
theorem DC.set {listed : Array Bool} {i : Nat} (h : DC md ops listed) (hr : i ∈ Region.ready md ops listed) : DC md ops (listed.setIfInBounds i true) := fun j o hj hl e he hb => by
  by_cases hji : j = i
  · subst hji
    obtain ⟨_, o', ho', hall⟩ := mem_ready.1 hr
    rw [hj] at ho'; injection ho' with ho'; subst ho'
    exact getD_set_mono (hall e he hb)
  · refine getD_set_mono (h j o hj ?_ e he hb)
    simp only [Array.getD_eq_getD_getElem?, Array.getElem?_setIfInBounds] at *
    rw [if_neg (fun e => hji e.symm)] at hl
    exact hl
theorem waits_spec {listed : Array Bool} (hdc : DC md ops listed) : ∀ (f t i : Nat), waitsJ md ops f t i = true → (∀ o, ops[t]? = some o → ∀ e ∈ o.after, Region.binds md e = true → listed.getD e.on false = true) → listed.getD i false = true
  | 0, t, i, h, _ => by simp [waitsJ] at h
  | f + 1, t, i, h, hd => by
    unfold waitsJ at h
    split at h
    · rename_i o ho
      rw [Bool.or_eq_true] at h
      rcases h with h | h
      · obtain ⟨e, he, hb⟩ := Array.any_eq_true'.1 h
        simp only [Bool.and_eq_true, beq_iff_eq] at hb
        have := hd o ho e he hb.1
        rwa [hb.2] at this
      · obtain ⟨e, he, hb⟩ := Array.any_eq_true'.1 h
        simp only [Bool.and_eq_true] at hb
        exact waits_spec hdc f e.on i hb.2 (fun o' ho' e' he' hb' => hdc e.on o' ho' (hd o ho e he hb.1) e' he' hb')
    · cases h
def tailBJ (md : Region.Mode) (ops : Array Oper) (n : List Nat) : Bool :=
  Region.noSelect ops && (List.range ops.size).all fun t => !n.contains t || match ops[t]? with
    | some _ => (List.range ops.size).all fun i => n.contains i || waitsJ md ops ops.size t i
    | none => true
theorem tailB_specJ {n : List Nat} {t i : Nat} {listed : Array Bool} (h : tailBJ md ops n = true) (hdc : DC md ops listed) (ht : t ∈ Region.ready md ops listed) (hs : i < ops.size) (hi : n.contains i = false) (hun : listed.getD i true = false) : n.contains t = false := by
  cases hc : n.contains t
  · rfl
  · exfalso
    obtain ⟨_, o, ho, hall⟩ := mem_ready.1 ht
    simp only [tailBJ, Bool.and_eq_true, List.all_eq_true, List.mem_range] at h
    have h1 := h.2 t (Array.getElem?_eq_some_iff.1 ho).1
    simp only [ho, hc, Bool.not_true, Bool.false_or, List.all_eq_true, List.mem_range] at h1
    have h2 := h1 i hs
    rw [hi, Bool.false_or] at h2
    have h3 := waits_spec hdc _ _ _ h2 (fun o' ho' e he hb => by rw [ho] at ho'; injection ho' with ho'; subst ho'; exact hall e he hb)
    rw [getD_both hun] at h3
    cases h3
def seqJ (md : Region.Mode) (ops : Array Oper) : List Nat → Array Bool → Bool
  | [], listed => (Region.ready md ops listed).isEmpty
  | k :: js, listed => decide (Region.ready md ops listed = [k]) && seqJ md ops js (listed.setIfInBounds k true)
theorem wpAny_of_seqJ {Q' : Exit → Act → World → Prop} : ∀ (js : List Nat) (listed : Array Bool) (a : Act) (w : World), (∀ j ∈ js, j < ops.size) →
    seqJ md ops js listed = true → wpList P ops Q' (js.filterMap (fun i => ops[i]?)) a w → wpAny P md ops Q' js.length listed a w
  | [], listed, a, w, _, hB, h => ⟨by simpa [seqJ] using hB, h⟩
  | k :: js, listed, a, w, hl, hB, h => by
    have hk : k < ops.size := hl k (by simp)
    have h0 : ops[k]? = some ops[k] := Array.getElem?_eq_some_iff.2 ⟨hk, rfl⟩
    simp only [seqJ, Bool.and_eq_true, decide_eq_true_eq] at hB
    refine ⟨fun h1 => (by rw [hB.1] at h1; cases h1), fun i hi => ?_⟩
    rw [hB.1] at hi
    have hik : i = k := by simpa using hi
    subst hik
    rw [List.filterMap_cons, h0] at h
    have hw : wpOp P ops Q' i (wpList P ops Q' (js.filterMap (fun i => ops[i]?))) a w := by unfold wpOp; simp only [h0]; exact h
    exact wpOp_mono (fun a' w' h' => wpAny_of_seqJ js _ a' w' (fun j hj => hl j (by simp [hj])) hB.2 h') hw
theorem seqB_memJ {n : List Nat} {listed : Array Bool} (h : seqJ md ops n listed = true) : ∀ j ∈ Region.ready md ops listed, n.contains j = true := by
  cases n with
  | nil => intro j hj; simp only [seqJ, List.isEmpty_iff] at h; rw [h] at hj; cases hj
  | cons k js =>
    intro j hj
    simp only [seqJ, Bool.and_eq_true, decide_eq_true_eq] at h
    rw [h.1] at hj
    have : j = k := by simpa using hj
    subst this
    simp
def isFresh (o : Oper) : Bool := match o.op with | .alloc _ => o.guard.isNone | .buildSlice _ _ _ => o.guard.isNone | _ => false
def freshV (o : Oper) (g : Nat) : Value := match o.op with | .buildSlice _ n _ => .slice (some ⟨g, 0, none⟩) n n | _ => .pointer (some ⟨g, 0, none⟩)
def FreshQ (P : Program) (ops : Array Oper) (o : Oper) (a : Act) (ob : Obj) : Prop :=
  Region.wanted o (yielded ops a.tmps) = true ∧ ∀ W, (execOp a.eval o).run P W = .ok (.value (freshV o W.heap.size)) (W.alloc ob)
theorem freshQ_ob {o : Oper} {a a' : Act} {ob ob' : Obj} (h : FreshQ P ops o a ob) (h' : FreshQ P ops o a' ob') (he : execOp a'.eval o = execOp a.eval o) (W : World) : ob = ob' := by
  have h1 := h.2 W
  have h2 := h'.2 W
  rw [he, h1] at h2
  have h3 : W.alloc ob = W.alloc ob' := by injection h2
  have h4 := heap_alloc_new W ob
  rw [h3, heap_alloc_new W ob'] at h4
  injection h4 with h4
  exact h4.symm
def wfQ (P : Program) (ops : Array Oper) (N : Nat) (W0 : World) (i : Nat) (K : GK) (F : World → Prop) (G : List (Nat × Obj)) (a : Act) : Prop :=
  match ops[i]? with
  | none => False
  | some o => if isFresh o = true then ∃ ob, FreshQ P ops o a ob ∧ ∀ g, N ≤ g → (∀ p ∈ G, p.1 ≠ g) → K F ((g, ob) :: G) (a.put o.dst (freshV o g))
      else (∃ v, YieldsH P ops N W0 o v a ∧ K F G (a.put o.dst v)) ∨
      WildX P ops N W0 o a K F G ∨
      CallX P ops N W0 o a K F G
/-- There is a world of which this is known. -/
def Live (N : Nat) (W0 : World) (F : World → Prop) (G : List (Nat × Obj)) : Prop := Cl F ∧ ∃ W, F W ∧ SG N W0 G W
theorem Live.weak {F : World → Prop} {G : List (Nat × Obj)} {p : Nat × Obj} (h : Live N W0 F (p :: G)) : Live N W0 F G := ⟨h.1, h.2.choose, h.2.choose_spec.1, h.2.choose_spec.2.weak⟩
theorem Live.same {F : World → Prop} {G G' : List (Nat × Obj)} (h : ∀ p, p ∈ G ↔ p ∈ G') (hl : Live N W0 F G) : Live N W0 F G' := ⟨hl.1, hl.2.choose, hl.2.choose_spec.1, hl.2.choose_spec.2.same h⟩
theorem Live.grow {F : World → Prop} {G : List (Nat × Obj)} (h : Live N W0 F G) (ob : Obj) : ∃ g, N ≤ g ∧ (∀ p ∈ G, p.1 ≠ g) ∧ Live N W0 F ((g, ob) :: G) := by
  obtain ⟨hC, W, hF, hS⟩ := h
  exact ⟨W.heap.size, hS.1.1, fun p hp e => by have := hS.size hp; omega, hC, W.alloc ob, hC _ _ hF ((Below.refl _ _).alloc (Nat.le_refl _) _), hS.alloc ob⟩
theorem givesX_live {W : World} {K : Value → (World → Prop) → Prop} : ∀ {r : Result Next}, givesX P W K r → ∃ v F' w'', Below W.heap.size W w'' ∧ F' w'' ∧ Cl F' ∧ K v F' := by
  intro r hr
  match r, hr with
  | .ok (.value u) w', ⟨F, a, b, c, d⟩ => exact ⟨_, _, _, a, b, c, d⟩
  | .ok .skip w', ⟨F, a, b, c, d⟩ => exact ⟨_, _, _, a, b, c, d⟩
  | .ok (.enter f args) w', hr =>
    obtain ⟨e, w'', fr, ⟨v, F, e1, a, b, c, d⟩, _⟩ := hr []
    exact ⟨_, _, _, a, b, c, d⟩
def wpQ (P : Program) (md : Region.Mode) (ops : Array Oper) (N : Nat) (W0 : World) (n : List Nat) (L : GK) : Nat → LK
  | 0, listed, F, G, a => Live N W0 F G → seqJ md ops n listed = true ∧ L F G a
  | f + 1, listed, F, G, a => Live N W0 F G → Region.ready md ops listed ≠ [] ∧ ∀ i ∈ Region.ready md ops listed, wfQ P ops N W0 i (wpQ P md ops N W0 n L f (listed.setIfInBounds i true)) F G a
theorem wpQ_live {n : List Nat} {L : GK} {f : Nat} {listed : Array Bool} {F : World → Prop} {G : List (Nat × Obj)} {a : Act} (h : Live N W0 F G → wpQ P md ops N W0 n L f listed F G a) : wpQ P md ops N W0 n L f listed F G a := by
  cases f
  · exact fun hl => h hl hl
  · exact fun hl => h hl hl
theorem wfQ_mono {i : Nat} {a : Act} {F : World → Prop} {G : List (Nat × Obj)} {K K' : GK} (h : ∀ F G a, K F G a → K' F G a) (hh : wfQ P ops N W0 i K F G a) : wfQ P ops N W0 i K' F G a := by
  unfold wfQ at *
  split
  · rename_i ho; simp only [ho] at hh
  · rename_i o ho
    simp only [ho] at hh
    split at hh
    · rename_i ha
      rw [if_pos ha]
      obtain ⟨ob, hf, hk⟩ := hh
      exact ⟨ob, hf, fun g hN hg => h _ _ _ (hk g hN hg)⟩
    · rename_i ha
      rw [if_neg ha]
      rcases hh with ⟨v, hy, hk⟩ | ⟨hw, hx⟩ | ⟨hw, hx⟩
      · exact .inl ⟨v, hy, h _ _ _ hk⟩
      · exact .inr (.inl ⟨hw, fun W hF hS => givesW_mono (fun v F' G' hk => h _ _ _ hk) _ (hx W hF hS)⟩)
      · exact .inr (.inr ⟨hw, fun W hF hS => givesX_mono (fun v F' hk => h _ _ _ hk) _ (hx W hF hS)⟩)
theorem wfQ_put {j : Nat} {oi oj : Oper} {v : Value} (hj : ops[j]? = some oj) (hap : oi.apart ops oj = true)
    (hsi : ∀ cs b, oi.op ≠ .select cs b) (hsj : ∀ cs b, oj.op ≠ .select cs b) {K : GK} {F : World → Prop} {G : List (Nat × Obj)} {a : Act}
    (hy : YieldsH P ops N W0 oi v a) (h : wfQ P ops N W0 j K F G (a.put oi.dst v)) :
    wfQ P ops N W0 j (fun F' G' a' => YieldsH P ops N W0 oi v a' ∧ K F' G' (a'.put oi.dst v)) F G a := by
  obtain ⟨h1, h2, h3⟩ := Oper.apart_spec hap
  have keep : ∀ u, YieldsH P ops N W0 oi v (a.put oj.dst u) := fun u => hy.of_same (execOp_put oi hsi a oj.dst u h3) (wanted_put oi a oj.dst u h3)
  have e1 := execOp_put oj hsj a oi.dst v h1
  have e2 := wanted_put oj a oi.dst v h1
  unfold wfQ at *
  simp only [hj] at *
  split at h
  · rename_i ha
    rw [if_pos ha]
    obtain ⟨ob, hf, hk⟩ := h
    refine ⟨ob, ?_, fun g hN hg => ⟨keep _, by rw [← Act.put_comm a v _ h2]; exact hk g hN hg⟩⟩
    unfold FreshQ at *; rw [e1, e2] at hf; exact hf
  · rename_i ha
    rw [if_neg ha]
    rcases h with ⟨u, hu, hk⟩ | ⟨hw, hx⟩ | ⟨hw, hx⟩
    · exact .inl ⟨u, hu.of_same e1.symm e2.symm, keep u, by rw [← Act.put_comm a v u h2]; exact hk⟩
    · refine .inr (.inl ⟨by rw [← e2]; exact hw, fun W hF hS => ?_⟩)
      have := hx W hF hS
      rw [e1] at this
      exact givesW_mono (fun u F' G' hk => ⟨keep u, by rw [← Act.put_comm a v u h2]; exact hk⟩) _ this
    · refine .inr (.inr ⟨by rw [← e2]; exact hw, fun W hF hS => ?_⟩)
      have := hx W hF hS
      rw [e1] at this
      exact givesX_mono (fun u F' hk => ⟨keep u, by rw [← Act.put_comm a v u h2]; exact hk⟩) _ this
theorem wfQ_same {i : Nat} {a : Act} {F : World → Prop} {G G' : List (Nat × Obj)} {K : GK} (hK : LInv K) (h : ∀ p, p ∈ G ↔ p ∈ G') (hh : wfQ P ops N W0 i K F G a) : wfQ P ops N W0 i K F G' a := by
  unfold wfQ at *
  split
  · rename_i ho; simp only [ho] at hh
  · rename_i o ho
    simp only [ho] at hh
    split at hh
    · rename_i ha
      rw [if_pos ha]
      obtain ⟨ob, hf, hk⟩ := hh
      exact ⟨ob, hf, fun g hN hg => hK _ _ _ _ (same_cons h _) (hk g hN (fun p hp => hg p ((h p).1 hp)))⟩
    · rename_i ha
      rw [if_neg ha]
      rcases hh with ⟨v, hy, hk⟩ | ⟨hw, hx⟩ | ⟨hw, hx⟩
      · exact .inl ⟨v, hy, hK _ _ _ _ h hk⟩
      · exact .inr (.inl ⟨hw, fun W hF hS => hx W hF (hS.same (fun p => (h p).symm))⟩)
      · exact .inr (.inr ⟨hw, fun W hF hS => givesX_mono (fun v F' hk => hK _ _ _ _ h hk) _ (hx W hF (hS.same (fun p => (h p).symm)))⟩)
theorem wpQ_same {n : List Nat} {L : GK} (hL : LInv L) : ∀ (f : Nat) (listed : Array Bool), LInv (wpQ P md ops N W0 n L f listed)
  | 0, listed => fun F G G' a h hh hl => ⟨(hh (hl.same (fun p => (h p).symm))).1, hL _ _ _ _ h (hh (hl.same (fun p => (h p).symm))).2⟩
  | f + 1, listed => fun F G G' a h hh hl => ⟨(hh (hl.same (fun p => (h p).symm))).1, fun i hi => wfQ_same (wpQ_same hL f _) h ((hh (hl.same (fun p => (h p).symm))).2 i hi)⟩
theorem wpQ_first {i : Nat} {n : List Nat} {oi : Oper} {v : Value} {L : GK} (hT : tailBJ md ops n = true) (hin : n.contains i = false) (hi : ops[i]? = some oi) (ha : isFresh oi = false) :
    ∀ (f : Nat) (listed : Array Bool) (F : World → Prop) (G : List (Nat × Obj)) (a : Act),
      DC md ops listed → (∀ j oj, ops[j]? = some oj → j ≠ i → listed.getD j true = false → (∀ e ∈ oj.after, Region.binds md e = true → e.on ≠ i) → oi.apart ops oj = true) →
      i ∈ Region.ready md ops listed → YieldsH P ops N W0 oi v a →
      wpQ P md ops N W0 n L f (listed.setIfInBounds i true) F G (a.put oi.dst v) → wpQ P md ops N W0 n L (f + 1) listed F G a := by
  have hsel := Region.noSelect_spec (by have := hT; unfold tailBJ at this; rw [Bool.and_eq_true] at this; exact this.1)
  have base : ∀ (F : World → Prop) (G : List (Nat × Obj)) (a : Act), YieldsH P ops N W0 oi v a → ∀ K : GK, K F G (a.put oi.dst v) → wfQ P ops N W0 i K F G a := by
    intro F G a hy K H
    unfold wfQ
    simp only [hi]
    rw [if_neg (by rw [ha]; exact Bool.false_ne_true)]
    exact .inl ⟨v, hy, H⟩
  intro f
  induction f with
  | zero =>
    intro listed F G a hdc hfree hr hy H hl
    have hun := (mem_ready.1 hr).1
    refine ⟨fun h => (by rw [h] at hr; cases hr), fun j hj => ?_⟩
    by_cases hji : j = i
    · subst hji
      exact base _ _ _ hy _ H
    · have h1 := seqB_memJ (H hl).1 j (ready_mono hj hji)
      have h2 := tailB_specJ hT hdc hj (Array.getElem?_eq_some_iff.1 hi).1 hin hun
      rw [h1] at h2; cases h2
  | succ f ih =>
    intro listed F G a hdc hfree hr hy H hl
    have hun := (mem_ready.1 hr).1
    refine ⟨fun h => (by rw [h] at hr; cases hr), fun j hj => ?_⟩
    by_cases hji : j = i
    · subst hji
      exact base _ _ _ hy _ H
    · have h1 := (H hl).2 j (ready_mono hj hji)
      obtain ⟨hjun, oj, hoj, hall⟩ := mem_ready.1 hj
      have hnot : ∀ e ∈ oj.after, Region.binds md e = true → e.on ≠ i := fun e he hb heq => by
        have h1 := hall e he hb
        rw [heq, getD_both hun] at h1
        cases h1
      have h2 := wfQ_put hoj (hfree j oj hoj hji hjun hnot) (fun cs b => hsel i oi cs b hi) (fun cs b => hsel j oj cs b hoj) hy h1
      have hfree' : ∀ k ok, ops[k]? = some ok → k ≠ i → (listed.setIfInBounds j true).getD k true = false →
          (∀ e ∈ ok.after, Region.binds md e = true → e.on ≠ i) → oi.apart ops ok = true := fun k ok hk hki hun hno => by
        refine hfree k ok hk hki ?_ hno
        by_cases hjk : j = k
        · subst hjk; exact hjun
        · rw [getD_set_ne true hjk] at hun; exact hun
      refine wfQ_mono (fun F' G' a' h3 => ih (listed.setIfInBounds j true) F' G' a' (hdc.set hj) hfree' (ready_mono hr (Ne.symm hji)) h3.1 ?_) h2
      rw [Array.setIfInBounds_comm _ _ hji]
      exact h3.2
/-- Beside i new blocks and rows alone may come up, till i is done. -/
def onlyQ (md : Region.Mode) (ops : Array Oper) (i : Nat) : Nat → Array Bool → Bool
  | 0, listed => decide (Region.ready md ops listed = [i])
  | f + 1, listed => (Region.ready md ops listed).contains i && (Region.ready md ops listed).all fun j => j == i || match ops[i]?, ops[j]? with
      | some oi, some oj => isFresh oj && oi.apart ops oj && onlyQ md ops i f (listed.setIfInBounds j true)
      | _, _ => false
theorem FreshQ.back {oi oj : Oper} {a : Act} {v : Value} {ob : Obj} (hsj : ∀ cs b, oj.op ≠ .select cs b) (hap : oi.apart ops oj = true) (h : FreshQ P ops oj (a.put oi.dst v) ob) : FreshQ P ops oj a ob := by
  obtain ⟨p1, p2, p3⟩ := Oper.apart_spec hap
  unfold FreshQ at *
  rw [execOp_put oj hsj a oi.dst v p1, wanted_put oj a oi.dst v p1] at h
  exact h
theorem wpQ_callfirst {i : Nat} {n : List Nat} {oi : Oper} {L : GK} (hsel : ∀ (j : Nat) (o : Oper) cs b, ops[j]? = some o → o.op ≠ .select cs b) (hi : ops[i]? = some oi) (hai : isFresh oi = false) :
    ∀ (f : Nat) (listed : Array Bool) (F : World → Prop) (G : List (Nat × Obj)) (a : Act), onlyQ md ops i f listed = true →
      CallX P ops N W0 oi a (wpQ P md ops N W0 n L f (listed.setIfInBounds i true)) F G →
      wpQ P md ops N W0 n L (f + 1) listed F G a := by
  intro f
  induction f with
  | zero =>
    intro listed F G a hB hx hl
    simp only [onlyQ, decide_eq_true_eq] at hB
    refine ⟨fun h => (by rw [h] at hB; cases hB), fun j hj => ?_⟩
    rw [hB] at hj
    obtain rfl : j = i := by simpa using hj
    unfold wfQ
    simp only [hi]
    rw [if_neg (by rw [hai]; exact Bool.false_ne_true)]
    exact .inr (.inr hx)
  | succ f ih =>
    intro listed F G a hB hx hl
    simp only [onlyQ, Bool.and_eq_true, List.all_eq_true] at hB
    obtain ⟨hr, hall⟩ := hB
    have hr : i ∈ Region.ready md ops listed := by simpa using hr
    refine ⟨fun h => (by rw [h] at hr; cases hr), fun j hj => ?_⟩
    by_cases hji : j = i
    · subst hji
      unfold wfQ
      simp only [hi]
      rw [if_neg (by rw [hai]; exact Bool.false_ne_true)]
      exact .inr (.inr hx)
    · have h1 := hall j hj
      obtain ⟨hjun, oj, hoj, _⟩ := mem_ready.1 hj
      simp only [hi, hoj, Bool.or_eq_true, beq_iff_eq, hji, false_or, Bool.and_eq_true] at h1
      obtain ⟨⟨haj, hap⟩, hon⟩ := h1
      obtain ⟨p1, p2, p3⟩ := Oper.apart_spec hap
      have hsj := fun cs b => hsel j oj cs b hoj
      obtain ⟨ob, hfr⟩ : ∃ ob, FreshQ P ops oj a ob := by
        obtain ⟨hC, W, hF, hS⟩ := hl
        obtain ⟨v, F', w'', hb, hF', hC', hk⟩ := givesX_live (hx.2 W hF hS)
        have h3 := (hk ⟨hC.and hC', w'', ⟨hC _ _ hF hb, hF'⟩, hS.below hb⟩).2 j (ready_mono hj hji)
        unfold wfQ at h3
        simp only [hoj] at h3
        rw [if_pos haj] at h3
        obtain ⟨ob', hf', _⟩ := h3
        exact ⟨ob', hf'.back hsj hap⟩
      unfold wfQ
      simp only [hoj]
      rw [if_pos haj]
      refine ⟨ob, hfr, fun g hN hG => ih (listed.setIfInBounds j true) F ((g, ob) :: G) _ hon ⟨?_, fun W hF hS => ?_⟩⟩
      · rw [wanted_put oi a oj.dst _ p3]; exact hx.1
      · have h2 := hx.2 W hF hS.weak
        rw [execOp_put oi (fun cs b => hsel i oi cs b hi) a oj.dst _ p3]
        refine givesX_mono (fun v F' hk => wpQ_live fun hl' => ?_) _ h2
        have h3 := (hk hl'.weak).2 j (ready_mono hj hji)
        unfold wfQ at h3
        simp only [hoj] at h3
        rw [if_pos haj] at h3
        obtain ⟨ob', hf', hk'⟩ := h3
        have hobe : ob = ob' := freshQ_ob hfr (hf'.back hsj hap) rfl W
        subst hobe
        have h4 := hk' g hN hG
        rw [Array.setIfInBounds_comm _ _ (Ne.symm hji), Act.put_comm a _ v (fun d hd => fun h => p2 d h hd)] at *
        exact h4
theorem wpQ_freshfirst {i : Nat} {n : List Nat} {oi : Oper} {L : GK} (hL : LInv L) (hsel : ∀ (j : Nat) (o : Oper) cs b, ops[j]? = some o → o.op ≠ .select cs b) (hi : ops[i]? = some oi) (hai : isFresh oi = true) (ob : Obj) :
    ∀ (f : Nat) (listed : Array Bool) (F : World → Prop) (G : List (Nat × Obj)) (a : Act), onlyQ md ops i f listed = true → FreshQ P ops oi a ob →
      (∀ g, N ≤ g → (∀ p ∈ G, p.1 ≠ g) → wpQ P md ops N W0 n L f (listed.setIfInBounds i true) F ((g, ob) :: G) (a.put oi.dst (freshV oi g))) →
      wpQ P md ops N W0 n L (f + 1) listed F G a := by
  have here : ∀ (K : GK) (F : World → Prop) (G : List (Nat × Obj)) (a : Act), FreshQ P ops oi a ob → (∀ g, N ≤ g → (∀ p ∈ G, p.1 ≠ g) → K F ((g, ob) :: G) (a.put oi.dst (freshV oi g))) → wfQ P ops N W0 i K F G a := by
    intro K F G a hfr hk
    unfold wfQ
    simp only [hi]
    rw [if_pos hai]
    exact ⟨ob, hfr, hk⟩
  intro f
  induction f with
  | zero =>
    intro listed F G a hB hfr hx hl
    simp only [onlyQ, decide_eq_true_eq] at hB
    refine ⟨fun h => (by rw [h] at hB; cases hB), fun j hj => ?_⟩
    rw [hB] at hj
    obtain rfl : j = i := by simpa using hj
    exact here _ _ _ _ hfr hx
  | succ f ih =>
    intro listed F G a hB hfr hx hl
    simp only [onlyQ, Bool.and_eq_true, List.all_eq_true] at hB
    obtain ⟨hr, hall⟩ := hB
    have hr : i ∈ Region.ready md ops listed := by simpa using hr
    refine ⟨fun h => (by rw [h] at hr; cases hr), fun j hj => ?_⟩
    by_cases hji : j = i
    · subst hji; exact here _ _ _ _ hfr hx
    · have h1 := hall j hj
      obtain ⟨hjun, oj, hoj, _⟩ := mem_ready.1 hj
      simp only [hi, hoj, Bool.or_eq_true, beq_iff_eq, hji, false_or, Bool.and_eq_true] at h1
      obtain ⟨⟨haj, hap⟩, hon⟩ := h1
      obtain ⟨p1, p2, p3⟩ := Oper.apart_spec hap
      have hsi := fun cs b => hsel i oi cs b hi
      have hsj := fun cs b => hsel j oj cs b hoj
      have hgo : ∀ g, N ≤ g → (∀ p ∈ G, p.1 ≠ g) → Live N W0 F ((g, ob) :: G) → ∃ obj, FreshQ P ops oj a obj ∧ ∀ g', N ≤ g' → (∀ p ∈ (g, ob) :: G, p.1 ≠ g') → wpQ P md ops N W0 n L f ((listed.setIfInBounds i true).setIfInBounds j true) F ((g', obj) :: (g, ob) :: G) ((a.put oi.dst (freshV oi g)).put oj.dst (freshV oj g')) := by
        intro g hN hG hl'
        have h3 := (hx g hN hG hl').2 j (ready_mono hj hji)
        unfold wfQ at h3
        simp only [hoj] at h3
        rw [if_pos haj] at h3
        obtain ⟨ob', hf', hk'⟩ := h3
        exact ⟨ob', hf'.back hsj hap, hk'⟩
      obtain ⟨obj, hfrj⟩ : ∃ obj, FreshQ P ops oj a obj := by
        obtain ⟨g, hN, hG, hl'⟩ := hl.grow ob
        obtain ⟨obj, h, _⟩ := hgo g hN hG hl'
        exact ⟨obj, h⟩
      unfold wfQ
      simp only [hoj]
      rw [if_pos haj]
      refine ⟨obj, hfrj, fun g' hN' hG' => ih (listed.setIfInBounds j true) F ((g', obj) :: G) _ hon ?_ (fun g hN hG => wpQ_live fun hl' => ?_)⟩
      · unfold FreshQ
        rw [execOp_put oi hsi a oj.dst _ p3, wanted_put oi a oj.dst _ p3]
        exact hfr
      · have hne : g' ≠ g := hG (g', obj) (by simp)
        obtain ⟨ob', hf', hk'⟩ := hgo g hN (fun p hp => hG p (by simp [hp])) ((hl'.same (G' := (g', obj) :: (g, ob) :: G) (fun p => by simp only [List.mem_cons]; constructor <;> (rintro (h | h | h) <;> simp [h]))).weak)
        have hobe : obj = ob' := freshQ_ob hfrj hf' rfl W0
        subst hobe
        have h4 := hk' g' hN' (fun p hp => by
          rcases List.mem_cons.1 hp with rfl | hp
          · exact Ne.symm hne
          · exact hG' p hp)
        rw [Array.setIfInBounds_comm _ _ (Ne.symm hji), Act.put_comm a _ _ p2] at h4
        exact wpQ_same hL f _ _ _ _ _ (fun p => by simp only [List.mem_cons]; constructor <;> (rintro (h | h | h) <;> simp [h])) h4
theorem wpOp_of_wfQ {i : Nat} {a : Act} {w : World} {F : World → Prop} {G : List (Nat × Obj)} {K : GK} {K' : Act → World → Prop} {Q' : Exit → Act → World → Prop} (hF : F w) (hC : Cl F) (hS : SG N W0 G w)
    (h : ∀ F G a w, Cl F → F w → SG N W0 G w → K F G a → K' a w) (hh : wfQ P ops N W0 i K F G a) : wpOp P ops Q' i K' a w := by
  unfold wfQ at hh
  unfold wpOp
  split
  · rename_i ho; simp only [ho] at hh
  · rename_i o ho
    simp only [ho] at hh
    split at hh
    · obtain ⟨ob, ⟨hw, hf⟩, hk⟩ := hh
      rw [if_pos hw]
      refine .inl ?_
      unfold Oper.wp
      rw [hf w]
      exact h _ _ _ _ hC (hC _ _ hF ((Below.refl _ _).alloc (Nat.le_refl _) _)) (hS.alloc ob) (hk _ hS.1.1 (fun p hp e => by have := hS.size hp; omega))
    · rcases hh with ⟨v, hy, hk⟩ | ⟨hw, hx⟩ | ⟨hw, hx⟩
      · rcases hy with ⟨hw, hg⟩ | ⟨hw, rfl⟩
        · rw [if_pos hw]
          refine .inl ?_
          have hg := hg w hS.1
          unfold Oper.wp
          generalize (execOp a.eval o).run P w = r at *
          cases r with
          | ok nx w' =>
            cases nx <;> simp only [givesB, Oper.upon] at hg ⊢
            case value u => obtain ⟨rfl, h2⟩ := hg; exact h _ _ _ _ hC (hC _ _ hF h2) (hS.below h2) hk
            case skip => obtain ⟨rfl, h2⟩ := hg; exact h _ _ _ _ hC (hC _ _ hF h2) (hS.below h2) hk
            case enter f args => exact hg.mono fun e w'' ⟨he, hw⟩ => by subst he; exact h _ _ _ _ hC (hC _ _ hF hw) (hS.below hw) hk
          | halt x w' => simp only [givesB] at hg
        · rw [if_neg (by simp [hw])]
          exact h _ _ _ _ hC hF hS hk
      · rw [if_pos hw]
        refine .inl ?_
        have hg := hx w hF hS
        unfold Oper.wp
        generalize (execOp a.eval o).run P w = r at *
        cases r with
        | ok nx w' =>
          cases nx <;> simp only [givesW, Oper.upon] at hg ⊢
          case value u => obtain ⟨v, F', G', e1, hF', hC', hS', hk⟩ := hg; injection e1 with e1; subst e1; exact h _ _ _ _ hC' hF' hS' hk
          case skip => obtain ⟨v, F', G', e1, hF', hC', hS', hk⟩ := hg; injection e1 with e1; subst e1; exact h _ _ _ _ hC' hF' hS' hk
          case enter f args => exact hg.mono fun e w'' ⟨v, F', G', e1, hF', hC', hS', hk⟩ => by subst e1; exact h _ _ _ _ hC' hF' hS' hk
        | halt x w' => simp only [givesW] at hg
      · rw [if_pos hw]
        refine .inl ?_
        have hg := hx w hF hS
        unfold Oper.wp
        generalize (execOp a.eval o).run P w = r at *
        cases r with
        | ok nx w' =>
          cases nx <;> simp only [givesX, Oper.upon] at hg ⊢
          case value u => obtain ⟨F', hb, hF', hC', hk⟩ := hg; exact h _ _ _ _ (hC.and hC') ⟨hC _ _ hF hb, hF'⟩ (hS.below hb) hk
          case skip => obtain ⟨F', hb, hF', hC', hk⟩ := hg; exact h _ _ _ _ (hC.and hC') ⟨hC _ _ hF hb, hF'⟩ (hS.below hb) hk
          case enter f args => exact hg.mono fun e w'' ⟨v, F', he, hb, hF', hC', hk⟩ => by subst he; exact h _ _ _ _ (hC.and hC') ⟨hC _ _ hF hb, hF'⟩ (hS.below hb) hk
        | halt x w' => simp only [givesX] at hg
theorem wpAny_of_wpQ {n : List Nat} {L : GK} {Q' : Exit → Act → World → Prop} (hn : ∀ j ∈ n, j < ops.size) (hL : ∀ F G a w, F w → SG N W0 G w → L F G a → wpList P ops Q' (n.filterMap (fun i => ops[i]?)) a w) :
    ∀ (f : Nat) (listed : Array Bool) (F : World → Prop) (G : List (Nat × Obj)) (a : Act) (w : World), Cl F → F w → SG N W0 G w → wpQ P md ops N W0 n L f listed F G a → wpAny P md ops Q' (f + n.length) listed a w
  | 0, listed, F, G, a, w, hC, hF, hS, h => by
    rw [Nat.zero_add]
    have h := h ⟨hC, w, hF, hS⟩
    exact wpAny_of_seqJ n listed a w hn h.1 (hL _ _ _ _ hF hS h.2)
  | f + 1, listed, F, G, a, w, hC, hF, hS, h => by
    rw [show f + 1 + n.length = (f + n.length) + 1 by omega]
    have h := h ⟨hC, w, hF, hS⟩
    exact ⟨fun h0 => absurd h0 h.1, fun i hi => wpOp_of_wfQ hF hC hS (fun F' G' a' w' hC' hF' hS' h' => wpAny_of_wpQ hn hL f _ F' G' a' w' hC' hF' hS' h') (h.2 i hi)⟩
/-- The region, taken so: m operations, then those whose numbers are listed. -/
theorem wp_region_floatQ {id : Nat} {Q : Exit → Act → World → Prop} {a : Act} {l : List Oper} {W0 : World} (N m : Nat) (n : List Nat) (hN : N ≤ W0.heap.size) (F0 : World → Prop) (hF0 : F0 W0) (hC0 : Cl F0) (hm : P.follows .mixedOrders = true) (hn : (decide (m + n.length = l.length) && n.all (fun j => decide (j < l.length))) = true)
    (h : wpQ P .any l.toArray N W0 n (fun F G a' => ∀ w', F w' → SG N W0 G w' → wpList P l.toArray Q (n.filterMap (fun i => l[i]?)) a' w') m (Array.replicate l.length false) F0 [] a) : (Code.region id l.toArray true).wp P Q a W0 := by
  simp only [Bool.and_eq_true, decide_eq_true_eq, List.all_eq_true] at hn
  refine wp_region_any hm ?_
  have := wpAny_of_wpQ (Q' := Q) (ops := l.toArray) (fun j hj => by simpa using hn.2 j hj) (fun F G a w hF hS hL => by simpa using hL w hF hS) _ _ _ [] a W0.drew hC0 (hC0 _ _ hF0 (Below.refl _ _).drew) ⟨(Own.refl hN).drew, fun p hp => by cases hp⟩ h
  rw [hn.1] at this
  simpa using this
def stepBQ (md : Region.Mode) (ops : Array Oper) (n : List Nat) (i : Nat) (listed : Array Bool) : Bool :=
  tailBJ md ops n && dcB md ops listed && (!n.contains i) && (Region.ready md ops listed).contains i && Region.free md ops listed i && match ops[i]? with | some o => !isFresh o | none => false
theorem stepB_specQ {n : List Nat} {i : Nat} {listed : Array Bool} {o : Oper} (hi : ops[i]? = some o) (h : stepBQ md ops n i listed = true) :
    (tailBJ md ops n = true ∧ dcB md ops listed = true) ∧ n.contains i = false ∧ i ∈ Region.ready md ops listed ∧ Region.free md ops listed i = true ∧ isFresh o = false := by
  simp only [stepBQ, hi, Bool.and_eq_true, Bool.not_eq_true'] at h
  obtain ⟨⟨⟨⟨⟨a, a'⟩, b⟩, c⟩, d⟩, e⟩ := h
  exact ⟨⟨a, a'⟩, b, by simpa using c, d, e⟩
theorem wpQ_step {i f : Nat} {n : List Nat} {o : Oper} {L : GK} {listed : Array Bool} {F : World → Prop} {G : List (Nat × Obj)} {a : Act} (hi : ops[i]? = some o) (hB : stepBQ md ops n i listed = true) (hg : o.guard = none) (v : Value)
    (h : GivesH P N W0 o a v) (hk : ∀ K : Act → Prop, (∀ a, wpQ P md ops N W0 n L f (listed.setIfInBounds i true) F G a → K a) → K (a.put o.dst v)) : wpQ P md ops N W0 n L (f + 1) listed F G a := by
  obtain ⟨h1, h2, h3, h4, h5⟩ := stepB_specQ hi hB
  exact wpQ_first h1.1 h2 hi h5 f listed F G a (dcB_spec h1.2) (Region.free_spec hi h4) h3 (.inl ⟨by simp [Region.wanted, hg], h⟩) (hk _ fun _ h => h)
theorem wpQ_step_on {i f : Nat} {n : List Nat} {o : Oper} {L : GK} {listed : Array Bool} {F : World → Prop} {G : List (Nat × Obj)} {a : Act} (hi : ops[i]? = some o) (hB : stepBQ md ops n i listed = true) (hg : Region.wanted o (yielded ops a.tmps) = true) (v : Value)
    (h : GivesH P N W0 o a v) (hk : ∀ K : Act → Prop, (∀ a, wpQ P md ops N W0 n L f (listed.setIfInBounds i true) F G a → K a) → K (a.put o.dst v)) : wpQ P md ops N W0 n L (f + 1) listed F G a := by
  obtain ⟨h1, h2, h3, h4, h5⟩ := stepB_specQ hi hB
  exact wpQ_first h1.1 h2 hi h5 f listed F G a (dcB_spec h1.2) (Region.free_spec hi h4) h3 (.inl ⟨hg, h⟩) (hk _ fun _ h => h)
theorem wpQ_step_off {i f : Nat} {n : List Nat} {o : Oper} {L : GK} {listed : Array Bool} {F : World → Prop} {G : List (Nat × Obj)} {a : Act} (hi : ops[i]? = some o) (hB : stepBQ md ops n i listed = true) (hg : Region.wanted o (yielded ops a.tmps) = false)
    (hk : ∀ K : Act → Prop, (∀ a, wpQ P md ops N W0 n L f (listed.setIfInBounds i true) F G a → K a) → K (a.put o.dst undef)) : wpQ P md ops N W0 n L (f + 1) listed F G a := by
  obtain ⟨h1, h2, h3, h4, h5⟩ := stepB_specQ hi hB
  exact wpQ_first h1.1 h2 hi h5 f listed F G a (dcB_spec h1.2) (Region.free_spec hi h4) h3 (.inr ⟨hg, rfl⟩) (hk _ fun _ h => h)
def freshBQ (md : Region.Mode) (ops : Array Oper) (i f : Nat) (listed : Array Bool) : Bool :=
  Region.noSelect ops && onlyQ md ops i f listed && match ops[i]? with | some o => isFresh o | none => false
/-- A new block or row, beside others alone. -/
theorem wpQ_fresh {i f : Nat} {n : List Nat} {o : Oper} {L : GK} {listed : Array Bool} {F : World → Prop} {G : List (Nat × Obj)} {a : Act} (hL : LInv L) (hi : ops[i]? = some o) (hB : freshBQ md ops i f listed = true) (mk : Nat → Value) (hmk : freshV o = mk) (ob : Obj)
    (h : ∀ W, (execOp a.eval o).run P W = .ok (.value (mk W.heap.size)) (W.alloc ob))
    (hk : ∀ g, N ≤ g → (∀ p ∈ G, p.1 ≠ g) → ∀ K : Act → Prop, (∀ a, wpQ P md ops N W0 n L f (listed.setIfInBounds i true) F ((g, ob) :: G) a → K a) → K (a.put o.dst (mk g))) : wpQ P md ops N W0 n L (f + 1) listed F G a := by
  subst hmk
  simp only [freshBQ, hi, Bool.and_eq_true] at hB
  obtain ⟨⟨hs, hon⟩, ha⟩ := hB
  have hgd : o.guard = none := by
    unfold isFresh at ha
    split at ha
    · simpa using ha
    · simpa using ha
    · cases ha
  exact wpQ_freshfirst hL (Region.noSelect_spec hs) hi ha ob f listed F G a hon ⟨by simp [Region.wanted, hgd], h⟩ (fun g hN hg => hk g hN hg _ fun _ h => h)
theorem wpQ_wild {i f : Nat} {n : List Nat} {o : Oper} {L : GK} {listed : Array Bool} {F : World → Prop} {G : List (Nat × Obj)} {a : Act} (hi : ops[i]? = some o) (hB : decide (Region.ready md ops listed = [i]) = true) (hg : (o.guard.isNone && !isFresh o) = true)
    (h : ∀ W, F W → SG N W0 G W → givesW P N W0 (fun v F' G' => ∀ K : Act → Prop, (∀ a, wpQ P md ops N W0 n L f (listed.setIfInBounds i true) F' G' a → K a) → K (a.put o.dst v)) ((execOp a.eval o).run P W)) : wpQ P md ops N W0 n L (f + 1) listed F G a := by
  rw [decide_eq_true_eq] at hB
  rw [Bool.and_eq_true, Bool.not_eq_true'] at hg
  refine fun _ => ⟨fun h0 => (by rw [h0] at hB; cases hB), fun j hj => ?_⟩
  rw [hB] at hj
  obtain rfl : j = i := by simpa using hj
  unfold wfQ
  simp only [hi]
  rw [if_neg (by rw [hg.2]; exact Bool.false_ne_true)]
  exact .inr (.inl ⟨by have := hg.1; simp [Region.wanted, Option.isNone_iff_eq_none.1 this], fun W hF hS => givesW_mono (fun v F' G' hk => hk _ fun _ h => h) _ (h W hF hS)⟩)
def callBQ (md : Region.Mode) (ops : Array Oper) (i f : Nat) (listed : Array Bool) : Bool :=
  Region.noSelect ops && onlyQ md ops i f listed && match ops[i]? with | some o => !isFresh o | none => false
/-- A call of whatever result, which alone (beside new blocks and rows) may come now. -/
theorem wpQ_call {i f : Nat} {n : List Nat} {o : Oper} {L : GK} {listed : Array Bool} {F : World → Prop} {G : List (Nat × Obj)} {a : Act} (hi : ops[i]? = some o) (hB : callBQ md ops i f listed = true)
    (hg : Region.wanted o (yielded ops a.tmps) = true)
    (hk : ∀ W, F W → SG N W0 G W → givesX P W (fun v F' => ∀ K : Act → Prop, (∀ a, wpQ P md ops N W0 n L f (listed.setIfInBounds i true) (fun W => F W ∧ F' W) G a → K a) → K (a.put o.dst v)) ((execOp a.eval o).run P W)) : wpQ P md ops N W0 n L (f + 1) listed F G a := by
  simp only [callBQ, hi, Bool.and_eq_true, Bool.not_eq_true'] at hB
  obtain ⟨⟨hs, hon⟩, hna⟩ := hB
  exact wpQ_callfirst (Region.noSelect_spec hs) hi hna f listed F G a hon ⟨hg, fun W hF hS => givesX_mono (fun v F' hk => hk _ fun _ h => h) _ (hk W hF hS)⟩
def wpQI (P : Program) (md : Region.Mode) (ops : Array Oper) (N : Nat) (W0 : World) (n : List Nat) (L : GK) (_ : List Nat) (m : Nat) (listed : Array Bool) (F : World → Prop) (G : List (Nat × Obj)) (a : Act) : Prop := wpQ P md ops N W0 n L m listed F G a
theorem wpQI_start {m : Nat} {n : List Nat} {L : GK} {listed : Array Bool} {F : World → Prop} {G : List (Nat × Obj)} {a : Act} (is : List Nat) (h : wpQI P md ops N W0 n L is m listed F G a) : wpQ P md ops N W0 n L m listed F G a := h
theorem wpQI_nil {m : Nat} {n : List Nat} {L : GK} {listed : Array Bool} {F : World → Prop} {G : List (Nat × Obj)} {a : Act} (h : wpQ P md ops N W0 n L m listed F G a) : wpQI P md ops N W0 n L [] m listed F G a := h
theorem wpQI_step {i f : Nat} {n : List Nat} {is : List Nat} {o : Oper} {L : GK} {listed : Array Bool} {F : World → Prop} {G : List (Nat × Obj)} {a : Act} (hi : ops[i]? = some o) (hB : stepBQ md ops n i listed = true) (hg : o.guard = none) (v : Value)
    (h : GivesH P N W0 o a v) (hk : ∀ K : Act → Prop, (∀ a, wpQI P md ops N W0 n L is f (listed.setIfInBounds i true) F G a → K a) → K (a.put o.dst v)) : wpQI P md ops N W0 n L (i :: is) (f + 1) listed F G a := wpQ_step hi hB hg v h hk
theorem wpQI_on {i f : Nat} {n : List Nat} {is : List Nat} {o : Oper} {L : GK} {listed : Array Bool} {F : World → Prop} {G : List (Nat × Obj)} {a : Act} (hi : ops[i]? = some o) (hB : stepBQ md ops n i listed = true) (hg : Region.wanted o (yielded ops a.tmps) = true) (v : Value)
    (h : GivesH P N W0 o a v) (hk : ∀ K : Act → Prop, (∀ a, wpQI P md ops N W0 n L is f (listed.setIfInBounds i true) F G a → K a) → K (a.put o.dst v)) : wpQI P md ops N W0 n L (i :: is) (f + 1) listed F G a := wpQ_step_on hi hB hg v h hk
theorem wpQI_off {i f : Nat} {n : List Nat} {is : List Nat} {o : Oper} {L : GK} {listed : Array Bool} {F : World → Prop} {G : List (Nat × Obj)} {a : Act} (hi : ops[i]? = some o) (hB : stepBQ md ops n i listed = true) (hg : Region.wanted o (yielded ops a.tmps) = false)
    (hk : ∀ K : Act → Prop, (∀ a, wpQI P md ops N W0 n L is f (listed.setIfInBounds i true) F G a → K a) → K (a.put o.dst undef)) : wpQI P md ops N W0 n L (i :: is) (f + 1) listed F G a := wpQ_step_off hi hB hg hk
theorem wpQ_done {n : List Nat} {L : GK} {listed : Array Bool} {F : World → Prop} {G : List (Nat × Obj)} {a : Act} (hB : seqJ md ops n listed = true) (h : L F G a) : wpQ P md ops N W0 n L 0 listed F G a := fun _ => ⟨hB, h⟩
/-- What follows a region, hidden while the region is walked. -/
theorem wp_q {c : Code} {Q : Exit → Act → World → Prop} {a : Act} {w : World} (h : ∀ Q' : Exit → Act → World → Prop, Hid (∀ e a w, Q e a w → Q' e a w) → c.wp P Q' a w) : c.wp P Q a w := h Q (Lib.hid fun _ _ _ h => h)
theorem LInv.std {l : List Oper} {Q : Exit → Act → World → Prop} {n : List Oper} : LInv (fun F G a' => ∀ w', F w' → SG N W0 G w' → wpList P l.toArray Q n a' w') := fun F G G' a h hL w' hF hS => hL w' hF (hS.same (fun p => (h p).symm))
end
end Go.Proofs.Ytgejdaincnclpaa
namespace Go.Proofs.Ytgejdaincnclpaa
open Go Go.RowKit
set_option linter.unusedVariables false
set_option maxRecDepth 100000 in
set_option maxHeartbeats 8000000 in
theorem whole_any (x y : Int) (w : World) (hx : -4611686018427387904 ≤ x ∧ x ≤ 4611686018427387904) (hy : -4611686018427387904 ≤ y ∧ y ≤ 4611686018427387904) :
    Calls Try.prog 60 #[.agg #[.int .i64 x, .int .i64 y]] w (ROut x y 1 w) := by
  have k1 := fun w => wof_any x w (by omega) (by omega)
  have k2 := fun w => wof_any y w (by omega) (by omega)
  obtain ⟨U, hU⟩ : ∃ U : Int, U = 1 := ⟨_, rfl⟩
  have k3 := fun w => ((by have := wof_any 1 w (by omega) (by omega); rw [hU]; exact this) : Calls Try.prog 41 #[.int .i64 1] w (ZOut U w))
  rw [← hU]
  have K1 := Lib.hid k1
  have K2 := Lib.hid k2
  have K3 := Lib.hid k3
  clear k1 k2 k3 hU
  -- names on
  go_enter Try.func60, Try.ntmps60; (try simp only [List.append_eq, List.cons_append, List.nil_append])
  go_wp2_with fail
  -- own blocks: w.heap.size:2, w.heap.size + 1:6
  (refine pin_wp (N := _) (Nat.le_refl _) (fun w2 hb_w2 hz_w2 => ?_); (try simp at hz_w2); (with_reducible apply cel2 (b := w.heap.size) hb_w2); (focus ((try simp) <;> omega)); (focus omega); (focus (go_simp; try exact rfl)); (focus (go_simp; try exact rfl)); (focus (intro o; go_simp)); intro c_w2_0_0 c_w2_0_1 fz_w2_0 hl_w2_0; (with_reducible apply cel6 (b := w.heap.size + 1) hb_w2); (focus ((try simp) <;> omega)); (focus omega); (focus (go_simp; try exact rfl)); (focus (go_simp; try exact rfl)); (focus (go_simp; try exact rfl)); (focus (go_simp; try exact rfl)); (focus (go_simp; try exact rfl)); (focus (go_simp; try exact rfl)); (focus (intro o; go_simp)); intro c_w2_1_0 c_w2_1_1 c_w2_1_2 c_w2_1_3 c_w2_1_4 c_w2_1_5 fz_w2_1 hl_w2_1); refine wp_q (fun Q_ HQ_ => ?_); refine wp_region_floatQ w2.heap.size 8 [8] (Nat.le_refl _) (fun _ => True) trivial Cl.tt (by kernel_rfl) (by kernel_rfl) ?_
  have HB2 := Lib.hid (show Below w.heap.size w w2 by ((with_reducible (repeat (first | exact bR _ _ | refine bS ?_ ?_ _ | refine bA ?_ ?_ _ | refine bD ?_ | refine bT ?_ (by assumption) ?_ | refine bO (by assumption) ?_ ?_))) <;> (first | omega | (simp; done) | (simp <;> omega))))
  have hz2 : w.heap.size + 1 + 1 ≤ w2.heap.size := by omega
  clear hb_w2
  skip
  refine wpQI_start [0, 1] ?_; (iterate 2 (first | (refine wpQI_off (by with_reducible (refine List.getElem?_toArray.trans ?_; (repeat (first | exact List.getElem?_cons_zero | refine List.getElem?_cons_succ.trans ?_)))) (by kernel_rfl) (by exact rfl) (fun K hK => ?_); go_simp; refine hK _ ?_; clear hK K) | ((first | apply wpQI_step (by with_reducible (refine List.getElem?_toArray.trans ?_; (repeat (first | exact List.getElem?_cons_zero | refine List.getElem?_cons_succ.trans ?_)))) (by kernel_rfl) (by exact rfl) | apply wpQI_on (by with_reducible (refine List.getElem?_toArray.trans ?_; (repeat (first | exact List.getElem?_cons_zero | refine List.getElem?_cons_succ.trans ?_)))) (by kernel_rfl) (by exact rfl)); (focus (intro W' hS; have hcS := hS.cells.1; have hfS := hS.cells.2; go_simp; (first | done | exact rfl | exact ⟨rfl, Below.refl _ _⟩ | (go_simp; first | done | exact rfl | exact ⟨rfl, Below.refl _ _⟩)))); intro K hK; go_simp; (try go_bits); refine hK _ ?_; clear hK K))); refine wpQI_nil ?_
  refine wpQI_start [3, 4] ?_; (iterate 2 (first | (refine wpQI_off (by with_reducible (refine List.getElem?_toArray.trans ?_; (repeat (first | exact List.getElem?_cons_zero | refine List.getElem?_cons_succ.trans ?_)))) (by kernel_rfl) (by exact rfl) (fun K hK => ?_); go_simp; refine hK _ ?_; clear hK K) | ((first | apply wpQI_step (by with_reducible (refine List.getElem?_toArray.trans ?_; (repeat (first | exact List.getElem?_cons_zero | refine List.getElem?_cons_succ.trans ?_)))) (by kernel_rfl) (by exact rfl) | apply wpQI_on (by with_reducible (refine List.getElem?_toArray.trans ?_; (repeat (first | exact List.getElem?_cons_zero | refine List.getElem?_cons_succ.trans ?_)))) (by kernel_rfl) (by exact rfl)); (focus (intro W' hS; have hcS := hS.cells.1; have hfS := hS.cells.2; go_simp; (first | done | exact rfl | exact ⟨rfl, Below.refl _ _⟩ | (go_simp; first | done | exact rfl | exact ⟨rfl, Below.refl _ _⟩)))); intro K hK; go_simp; (try go_bits); refine hK _ ?_; clear hK K))); refine wpQI_nil ?_
  apply wpQ_call (i := 2) (by with_reducible (refine List.getElem?_toArray.trans ?_; (repeat (first | exact List.getElem?_cons_zero | refine List.getElem?_cons_succ.trans ?_)))) (by kernel_rfl) (by exact rfl); intro W hF hS; have hcS := hS.1.cells.1; have hfS := hS.1.cells.2; go_simp; (go_at_call 41; refine (K1.out _).mono ?_; rintro e w3 ⟨hb_w3, v3, rfl, hv3⟩; refine XPost.mk _ (fun W => IsC W v3 (x)) hb_w3 (hv3) (IsC.cl _ _) ?_); clear hb_w3 hcS hfS hS hF
  intro K hK; go_simp; (try go_bits); refine hK _ ?_; clear hK K
  obtain ⟨s3, A3, n3, c3, rfl⟩ := IsC.val hv3
  clear hv3
  apply wpQ_call (i := 5) (by with_reducible (refine List.getElem?_toArray.trans ?_; (repeat (first | exact List.getElem?_cons_zero | refine List.getElem?_cons_succ.trans ?_)))) (by kernel_rfl) (by exact rfl); intro W hF hS; have hcS := hS.1.cells.1; have hfS := hS.1.cells.2; go_simp; (go_at_call 41; refine (K2.out _).mono ?_; rintro e w4 ⟨hb_w4, v4, rfl, hv4⟩; refine XPost.mk _ (fun W => IsC W v4 (y)) hb_w4 (hv4) (IsC.cl _ _) ?_); clear hb_w4 hcS hfS hS hF
  intro K hK; go_simp; (try go_bits); refine hK _ ?_; clear hK K
  obtain ⟨s4, A4, n4, c4, rfl⟩ := IsC.val hv4
  clear hv4
  apply wpQ_call (i := 6) (by with_reducible (refine List.getElem?_toArray.trans ?_; (repeat (first | exact List.getElem?_cons_zero | refine List.getElem?_cons_succ.trans ?_)))) (by kernel_rfl) (by exact rfl); intro W hF hS; have hcS := hS.1.cells.1; have hfS := hS.1.cells.2; go_simp; (go_at_call 41; refine (K3.out _).mono ?_; rintro e w5 ⟨hb_w5, v5, rfl, hv5⟩; refine XPost.mk _ (fun W => IsC W v5 (U)) hb_w5 (hv5) (IsC.cl _ _) ?_); clear hb_w5 hcS hfS hS hF
  intro K hK; go_simp; (try go_bits); refine hK _ ?_; clear hK K
  obtain ⟨s5, A5, n5, c5, rfl⟩ := IsC.val hv5
  clear hv5
  refine wpQI_start [7] ?_; (iterate 1 (first | (refine wpQI_off (by with_reducible (refine List.getElem?_toArray.trans ?_; (repeat (first | exact List.getElem?_cons_zero | refine List.getElem?_cons_succ.trans ?_)))) (by kernel_rfl) (by exact rfl) (fun K hK => ?_); go_simp; refine hK _ ?_; clear hK K) | ((first | apply wpQI_step (by with_reducible (refine List.getElem?_toArray.trans ?_; (repeat (first | exact List.getElem?_cons_zero | refine List.getElem?_cons_succ.trans ?_)))) (by kernel_rfl) (by exact rfl) | apply wpQI_on (by with_reducible (refine List.getElem?_toArray.trans ?_; (repeat (first | exact List.getElem?_cons_zero | refine List.getElem?_cons_succ.trans ?_)))) (by kernel_rfl) (by exact rfl)); (focus (intro W' hS; have hcS := hS.cells.1; have hfS := hS.cells.2; go_simp; (first | done | exact rfl | exact ⟨rfl, Below.refl _ _⟩ | (go_simp; first | done | exact rfl | exact ⟨rfl, Below.refl _ _⟩)))); intro K hK; go_simp; (try go_bits); refine hK _ ?_; clear hK K))); refine wpQI_nil ?_
  refine wpQ_done (by kernel_rfl) ?_
  intro w6 hF_w6 hSG
  have hz_w6 := hSG.1.1
  have hb_w6 := hSG.1.2
  clear hSG
  (with_reducible apply cel2 (b := w.heap.size) hb_w6); (focus ((try simp) <;> omega)); (focus omega); (focus (go_simp; try exact rfl)); (focus (go_simp; try exact rfl)); (focus (intro o; go_simp)); intro c_w6_0_0 c_w6_0_1 fz_w6_0 hl_w6_0; (with_reducible apply cel6 (b := w.heap.size + 1) hb_w6); (focus ((try simp) <;> omega)); (focus omega); (focus (go_simp; try exact rfl)); (focus (go_simp; try exact rfl)); (focus (go_simp; try exact rfl)); (focus (go_simp; try exact rfl)); (focus (go_simp; try exact rfl)); (focus (go_simp; try exact rfl)); (focus (intro o; go_simp)); intro c_w6_1_0 c_w6_1_1 c_w6_1_2 c_w6_1_3 c_w6_1_4 c_w6_1_5 fz_w6_1 hl_w6_1
  (try simp only [List.filterMap_cons, List.filterMap_nil, List.getElem?_cons_succ, List.getElem?_cons_zero])
  have H3 := Lib.hid (show IsC w6 (.agg #[.bool s3, .slice A3 n3 c3]) (x) from hF_w6.1.1)
  have H4 := Lib.hid (show IsC w6 (.agg #[.bool s4, .slice A4 n4 c4]) (y) from hF_w6.1.2)
  have H5 := Lib.hid (show IsC w6 (.agg #[.bool s5, .slice A5 n5 c5]) (U) from hF_w6.2)
  have HB6 := Lib.hid (HB2.out.trans (hb_w6.mono (by have := HB2.out.size; omega)))
  have hz6 : w.heap.size + 1 + 1 ≤ w6.heap.size := by omega
  clear hF_w6 hb_w6
  clear c_w2_0_0 c_w2_0_1 fz_w2_0 hl_w2_0 c_w2_1_0 c_w2_1_1 c_w2_1_2 c_w2_1_3 c_w2_1_4 c_w2_1_5 fz_w2_1 hl_w2_1
  go_wp2_with fail
  refine HQ_.out _ _ _ ?_
  clear HQ_ Q_
  go_wp2_with fail
  -- own blocks: w.heap.size + 1:6
  refine bodyPost_ret (v := .agg #[.bool s3, .slice A3 n3 c3, .bool s4, .slice A4 n4 c4, .bool s5, .slice A5 n5 c5]) (by simp only [results, Try.results60]; go_simp) rfl ⟨?_, ?_⟩
  · have hB := HB6.out; ((with_reducible (repeat (first | exact bR _ _ | refine bS ?_ ?_ _ | refine bA ?_ ?_ _ | refine bD ?_ | refine bT ?_ (by assumption) ?_ | refine bO (by assumption) ?_ ?_))) <;> (first | omega | (simp; done) | (simp <;> omega)))
  · exact ⟨_, rfl, ⟨_, _, _, _, _, _, _, _, _, _, _, _, rfl, (by ((repeat (first | (with_reducible exact H3.out) | (with_reducible refine IsC.al ?_ _) | (with_reducible apply IsC.st1))) <;> (first | (with_reducible assumption) | (intro _ e; cases e; done) | (go_simp; first | done | exact rfl)))), (by ((repeat (first | (with_reducible exact H4.out) | (with_reducible refine IsC.al ?_ _) | (with_reducible apply IsC.st1))) <;> (first | (with_reducible assumption) | (intro _ e; cases e; done) | (go_simp; first | done | exact rfl)))), (by ((repeat (first | (with_reducible exact H5.out) | (with_reducible refine IsC.al ?_ _) | (with_reducible apply IsC.st1))) <;> (first | (with_reducible assumption) | (intro _ e; cases e; done) | (go_simp; first | done | exact rfl))))⟩⟩
set_option maxRecDepth 100000 in
set_option maxHeartbeats 8000000 in
theorem lowest_any (x y d : Int) (v : Value) (w : World) (h : RAt w v x y d) (hd : d ≠ 0) (lx : (canN x.natAbs).length ≤ 100000) (ly : (canN y.natAbs).length ≤ 100000) (ld : (canN d.natAbs).length ≤ 100000) :
    Calls Try.prog 43 #[v] w (ROut (x.tdiv (lowG x y d)) (y.tdiv (lowG x y d)) (d.tdiv (lowG x y d)) w) := by
  obtain ⟨s1, A1, n1, c1, s2, A2, n2, c2, s3, A3, n3, c3, rfl⟩ := h.val
  have h0 := h
  have lg := gcdN_len lx ly
  have lG := gcdN_len lg ld
  have hG0 : ((Nat.gcd (Nat.gcd x.natAbs y.natAbs) d.natAbs : Nat) : Int) ≠ 0 := by
    have : 0 < Nat.gcd (Nat.gcd x.natAbs y.natAbs) d.natAbs := Nat.gcd_pos_of_pos_right _ (by omega)
    omega
  have k1 := fun u v w h1 h2 => wgcd_any 100000 u v x y w h1 h2 (by omega)
  unfold lowG
  generalize Nat.gcd x.natAbs y.natAbs = g at *
  have k2 := fun u v w h1 h2 => wgcd_any 100000 u v (g : Int) d w h1 h2 (by omega)
  simp only [Int.natAbs_natCast] at k2
  generalize Nat.gcd g d.natAbs = G at *
  have k3 := fun u v w h1 h2 => wquo_any 100000 u v x (G : Int) w h1 h2 (by omega) hG0
  have k4 := fun u v w h1 h2 => wquo_any 100000 u v y (G : Int) w h1 h2 (by omega) hG0
  have k5 := fun u v w h1 h2 => wquo_any 100000 u v d (G : Int) w h1 h2 (by omega) hG0
  have lg1 : (canN (g : Int).natAbs).length ≤ 100000 := by rw [Int.natAbs_natCast]; exact lg
  replace lg : (canN (G : Int).natAbs).length ≤ 100000 := by rw [Int.natAbs_natCast]; exact lG
  generalize x.tdiv (G : Int) = X at *
  generalize y.tdiv (G : Int) = Y at *
  generalize d.tdiv (G : Int) = D at *
  generalize x.tmod (G : Int) = X2 at *
  generalize y.tmod (G : Int) = Y2 at *
  generalize d.tmod (G : Int) = D2 at *
  have K1 := Lib.hid k1
  have K2 := Lib.hid k2
  have K3 := Lib.hid k3
  have K4 := Lib.hid k4
  have K5 := Lib.hid k5
  have LX := Lib.hid lx
  have LY := Lib.hid ly
  have LD := Lib.hid ld
  have LG1 := Lib.hid lg1
  have LG := Lib.hid lg
  have H0 := Lib.hid h0
  clear k1 k2 k3 k4 k5 lx ly ld lg lG lg1 hG0 hd h h0
  -- names on
  go_enter Try.func43, Try.ntmps43; (try simp only [List.append_eq, List.cons_append, List.nil_append])
  go_wp2_with fail
  -- own blocks: w.heap.size:6, w.heap.size + 1:6
  (refine pin_wp (N := _) (Nat.le_refl _) (fun w4 hb_w4 hz_w4 => ?_); (try simp at hz_w4); (with_reducible apply cel6 (b := w.heap.size) hb_w4); (focus ((try simp) <;> omega)); (focus omega); (focus (go_simp; try exact rfl)); (focus (go_simp; try exact rfl)); (focus (go_simp; try exact rfl)); (focus (go_simp; try exact rfl)); (focus (go_simp; try exact rfl)); (focus (go_simp; try exact rfl)); (focus (intro o; go_simp)); intro c_w4_0_0 c_w4_0_1 c_w4_0_2 c_w4_0_3 c_w4_0_4 c_w4_0_5 fz_w4_0 hl_w4_0; (with_reducible apply cel6 (b := w.heap.size + 1) hb_w4); (focus ((try simp) <;> omega)); (focus omega); (focus (go_simp; try exact rfl)); (focus (go_simp; try exact rfl)); (focus (go_simp; try exact rfl)); (focus (go_simp; try exact rfl)); (focus (go_simp; try exact rfl)); (focus (go_simp; try exact rfl)); (focus (intro o; go_simp)); intro c_w4_1_0 c_w4_1_1 c_w4_1_2 c_w4_1_3 c_w4_1_4 c_w4_1_5 fz_w4_1 hl_w4_1); refine wp_q (fun Q_ HQ_ => ?_); refine wp_region_floatQ w4.heap.size 9 [9] (Nat.le_refl _) (fun _ => True) trivial Cl.tt (by kernel_rfl) (by kernel_rfl) ?_
  replace H0 := Lib.hid (RAt.below (v := .agg #[.bool s1, .slice A1 n1 c1, .bool s2, .slice A2 n2 c2, .bool s3, .slice A3 n3 c3]) (x := x) (y := y) (d := d) (by ((repeat (first | (with_reducible exact H0.out) | (with_reducible refine RAt.al ?_ _) | (with_reducible apply RAt.st1))) <;> (first | (with_reducible assumption) | (intro _ e; cases e; done) | (go_simp; first | done | exact rfl)))) hb_w4)
  have HB4 := Lib.hid (show Below w.heap.size w w4 by ((with_reducible (repeat (first | exact bR _ _ | refine bS ?_ ?_ _ | refine bA ?_ ?_ _ | refine bD ?_ | refine bT ?_ (by assumption) ?_ | refine bO (by assumption) ?_ ?_))) <;> (first | omega | (simp; done) | (simp <;> omega))))
  have hz4 : w.heap.size + 1 + 1 ≤ w4.heap.size := by omega
  clear hb_w4
  skip
  refine wpQI_start [0, 1, 2, 3] ?_; (iterate 4 (first | (refine wpQI_off (by with_reducible (refine List.getElem?_toArray.trans ?_; (repeat (first | exact List.getElem?_cons_zero | refine List.getElem?_cons_succ.trans ?_)))) (by kernel_rfl) (by exact rfl) (fun K hK => ?_); go_simp; refine hK _ ?_; clear hK K) | ((first | apply wpQI_step (by with_reducible (refine List.getElem?_toArray.trans ?_; (repeat (first | exact List.getElem?_cons_zero | refine List.getElem?_cons_succ.trans ?_)))) (by kernel_rfl) (by exact rfl) | apply wpQI_on (by with_reducible (refine List.getElem?_toArray.trans ?_; (repeat (first | exact List.getElem?_cons_zero | refine List.getElem?_cons_succ.trans ?_)))) (by kernel_rfl) (by exact rfl)); (focus (intro W' hS; have hcS := hS.cells.1; have hfS := hS.cells.2; go_simp; (first | done | exact rfl | exact ⟨rfl, Below.refl _ _⟩ | (go_simp; first | done | exact rfl | exact ⟨rfl, Below.refl _ _⟩)))); intro K hK; go_simp; (try go_bits); refine hK _ ?_; clear hK K))); refine wpQI_nil ?_
  refine wpQI_start [5, 6] ?_; (iterate 2 (first | (refine wpQI_off (by with_reducible (refine List.getElem?_toArray.trans ?_; (repeat (first | exact List.getElem?_cons_zero | refine List.getElem?_cons_succ.trans ?_)))) (by kernel_rfl) (by exact rfl) (fun K hK => ?_); go_simp; refine hK _ ?_; clear hK K) | ((first | apply wpQI_step (by with_reducible (refine List.getElem?_toArray.trans ?_; (repeat (first | exact List.getElem?_cons_zero | refine List.getElem?_cons_succ.trans ?_)))) (by kernel_rfl) (by exact rfl) | apply wpQI_on (by with_reducible (refine List.getElem?_toArray.trans ?_; (repeat (first | exact List.getElem?_cons_zero | refine List.getElem?_cons_succ.trans ?_)))) (by kernel_rfl) (by exact rfl)); (focus (intro W' hS; have hcS := hS.cells.1; have hfS := hS.cells.2; go_simp; (first | done | exact rfl | exact ⟨rfl, Below.refl _ _⟩ | (go_simp; first | done | exact rfl | exact ⟨rfl, Below.refl _ _⟩)))); intro K hK; go_simp; (try go_bits); refine hK _ ?_; clear hK K))); refine wpQI_nil ?_
  apply wpQ_call (i := 4) (by with_reducible (refine List.getElem?_toArray.trans ?_; (repeat (first | exact List.getElem?_cons_zero | refine List.getElem?_cons_succ.trans ?_)))) (by kernel_rfl) (by exact rfl); intro W hF hS; have hcS := hS.1.cells.1; have hfS := hS.1.cells.2; go_simp; (go_at_call 69; refine ((K1.out _ _ _ ((RAt.px (H0.out.below hS.1.2)).zl LX.out) ((RAt.py (H0.out.below hS.1.2)).zl LY.out)).mono (fun _ _ h => NOut.z h)).mono ?_; rintro e w5 ⟨hb_w5, v5, rfl, hv5⟩; refine XPost.mk _ (fun W => IsC W v5 ((g : Int))) hb_w5 (hv5) (IsC.cl _ _) ?_); clear hb_w5 hcS hfS hS hF
  intro K hK; go_simp; (try go_bits); refine hK _ ?_; clear hK K
  obtain ⟨s5, A5, n5, c5, rfl⟩ := IsC.val hv5
  clear hv5
  apply wpQ_call (i := 7) (by with_reducible (refine List.getElem?_toArray.trans ?_; (repeat (first | exact List.getElem?_cons_zero | refine List.getElem?_cons_succ.trans ?_)))) (by kernel_rfl) (by exact rfl); intro W hF hS; have hcS := hS.1.cells.1; have hfS := hS.1.cells.2; go_simp; (go_at_call 69; refine ((K2.out _ _ _ (hF.zl LG1.out) ((RAt.pd (H0.out.below hS.1.2)).zl LD.out)).mono (fun _ _ h => NOut.z h)).mono ?_; rintro e w6 ⟨hb_w6, v6, rfl, hv6⟩; refine XPost.mk _ (fun W => IsC W v6 ((G : Int))) hb_w6 (hv6) (IsC.cl _ _) ?_); clear hb_w6 hcS hfS hS hF
  intro K hK; go_simp; (try go_bits); refine hK _ ?_; clear hK K
  obtain ⟨s6, A6, n6, c6, rfl⟩ := IsC.val hv6
  clear hv6
  apply wpQ_fresh (i := 8) LInv.std (by with_reducible (refine List.getElem?_toArray.trans ?_; (repeat (first | exact List.getElem?_cons_zero | refine List.getElem?_cons_succ.trans ?_)))) (by kernel_rfl) (fun g => Value.pointer (some ⟨g, 0, none⟩)) (by exact rfl); (focus (intro W; go_simp; first | done | exact rfl | exact ⟨rfl, rfl⟩))
  intro g_r1_8 hN_r1_8 hG_r1_8 K hK
  go_simp; refine hK _ ?_; clear hK K
  have hne : w.heap.size ≠ g_r1_8 := by have := hN_r1_8; omega
  have hne := Ne.symm hne
  have hne : w.heap.size + 1 ≠ g_r1_8 := by have := hN_r1_8; omega
  have hne := Ne.symm hne
  refine wpQ_done (by kernel_rfl) ?_
  intro w7 hF_w7 hSG
  have hz_w7 := hSG.1.1
  have hb_w7 := hSG.1.2
  have hB_r1_8 := (hSG.2 _ (List.mem_cons_self ..)).2; simp only at hB_r1_8; have hl_r1_8 := (hSG.size (List.mem_cons_self ..)); simp only at hl_r1_8
  have c_w7_r1_8_0 := cell_of_row w7 g_r1_8 0 _ _ _ hB_r1_8; simp only [List.getElem?_toArray, List.getElem?_cons_zero] at c_w7_r1_8_0
  have c_w7_r1_8_1 := cell_of_row w7 g_r1_8 1 _ _ _ hB_r1_8; simp only [List.getElem?_toArray, List.getElem?_cons_zero, List.getElem?_cons_succ] at c_w7_r1_8_1
  have fz_w7_r1_8 : (∀ o, w7.frozen? ⟨g_r1_8, o, none⟩ = false) := (fun o => frozen_of_row w7 g_r1_8 o _ _ hB_r1_8); have HH_r1_8 := Lib.hid hB_r1_8; clear hB_r1_8
  clear hSG
  (with_reducible apply cel6 (b := w.heap.size) hb_w7); (focus ((try simp) <;> omega)); (focus omega); (focus (go_simp; try exact rfl)); (focus (go_simp; try exact rfl)); (focus (go_simp; try exact rfl)); (focus (go_simp; try exact rfl)); (focus (go_simp; try exact rfl)); (focus (go_simp; try exact rfl)); (focus (intro o; go_simp)); intro c_w7_0_0 c_w7_0_1 c_w7_0_2 c_w7_0_3 c_w7_0_4 c_w7_0_5 fz_w7_0 hl_w7_0; (with_reducible apply cel6 (b := w.heap.size + 1) hb_w7); (focus ((try simp) <;> omega)); (focus omega); (focus (go_simp; try exact rfl)); (focus (go_simp; try exact rfl)); (focus (go_simp; try exact rfl)); (focus (go_simp; try exact rfl)); (focus (go_simp; try exact rfl)); (focus (go_simp; try exact rfl)); (focus (intro o; go_simp)); intro c_w7_1_0 c_w7_1_1 c_w7_1_2 c_w7_1_3 c_w7_1_4 c_w7_1_5 fz_w7_1 hl_w7_1
  (try simp only [List.filterMap_cons, List.filterMap_nil, List.getElem?_cons_succ, List.getElem?_cons_zero])
  replace H0 := Lib.hid (H0.out.below hb_w7)
  have H5 := Lib.hid (show IsC w7 (.agg #[.bool s5, .slice A5 n5 c5]) ((g : Int)) from hF_w7.1)
  have H6 := Lib.hid (show IsC w7 (.agg #[.bool s6, .slice A6 n6 c6]) ((G : Int)) from hF_w7.2)
  have HB7 := Lib.hid (HB4.out.trans (hb_w7.mono (by have := HB4.out.size; omega)))
  have hz7 : w.heap.size + 1 + 1 ≤ w7.heap.size := by omega
  have hn_r1_8 : w.heap.size + 1 + 1 ≤ g_r1_8 := by have := hN_r1_8; omega
  clear hF_w7 hb_w7 HH_r1_8 hG_r1_8 hN_r1_8
  clear c_w4_0_0 c_w4_0_1 c_w4_0_2 c_w4_0_3 c_w4_0_4 c_w4_0_5 fz_w4_0 hl_w4_0 c_w4_1_0 c_w4_1_1 c_w4_1_2 c_w4_1_3 c_w4_1_4 c_w4_1_5 fz_w4_1 hl_w4_1
  go_wp2_with fail
  refine HQ_.out _ _ _ ?_
  clear HQ_ Q_
  go_wp2_with fail
  -- own blocks: w.heap.size:6, w.heap.size + 1:6, g_r1_8:2
  (go_at_call 44; refine (K3.out _ _ _ ((RAt.px (show RAt _ (.agg #[.bool s1, .slice A1 n1 c1, .bool s2, .slice A2 n2 c2, .bool s3, .slice A3 n3 c3]) (x) (y) (d) by ((repeat (first | (with_reducible exact H0.out) | (with_reducible refine RAt.al ?_ _) | (with_reducible apply RAt.st1))) <;> (first | (with_reducible assumption) | (intro _ e; cases e; done) | (go_simp; first | done | exact rfl))))).zl LX.out) ((show IsC _ (.agg #[.bool s6, .slice A6 n6 c6]) ((G : Int)) by ((repeat (first | (with_reducible exact H6.out) | (with_reducible refine IsC.al ?_ _) | (with_reducible apply IsC.st1))) <;> (first | (with_reducible assumption) | (intro _ e; cases e; done) | (go_simp; first | done | exact rfl)))).zl LG.out)).mono ?_; rintro e w8 ⟨hb_w8, u8, v8, rfl, hu8, hv8⟩; have hz_w8 := hb_w8.size; (try simp at hz_w8); (with_reducible apply cel6 (b := w.heap.size) hb_w8); (focus ((try simp) <;> omega)); (focus omega); (focus (go_simp; try exact rfl)); (focus (go_simp; try exact rfl)); (focus (go_simp; try exact rfl)); (focus (go_simp; try exact rfl)); (focus (go_simp; try exact rfl)); (focus (go_simp; try exact rfl)); (focus (intro o; go_simp)); intro c_w8_0_0 c_w8_0_1 c_w8_0_2 c_w8_0_3 c_w8_0_4 c_w8_0_5 fz_w8_0 hl_w8_0; (with_reducible apply cel6 (b := w.heap.size + 1) hb_w8); (focus ((try simp) <;> omega)); (focus omega); (focus (go_simp; try exact rfl)); (focus (go_simp; try exact rfl)); (focus (go_simp; try exact rfl)); (focus (go_simp; try exact rfl)); (focus (go_simp; try exact rfl)); (focus (go_simp; try exact rfl)); (focus (intro o; go_simp)); intro c_w8_1_0 c_w8_1_1 c_w8_1_2 c_w8_1_3 c_w8_1_4 c_w8_1_5 fz_w8_1 hl_w8_1; (with_reducible apply cel2 (b := g_r1_8) hb_w8); (focus ((try simp) <;> omega)); (focus omega); (focus (go_simp; try exact rfl)); (focus (go_simp; try exact rfl)); (focus (intro o; go_simp)); intro c_w8_2_0 c_w8_2_1 fz_w8_2 hl_w8_2)
  obtain ⟨s8u, A8u, n8u, c8u, rfl⟩ := IsC.val hu8
  obtain ⟨s8, A8, n8, c8, rfl⟩ := IsC.val hv8
  clear H5
  replace H0 := Lib.hid (RAt.below (v := .agg #[.bool s1, .slice A1 n1 c1, .bool s2, .slice A2 n2 c2, .bool s3, .slice A3 n3 c3]) (x := x) (y := y) (d := d) (by ((repeat (first | (with_reducible exact H0.out) | (with_reducible refine RAt.al ?_ _) | (with_reducible apply RAt.st1))) <;> (first | (with_reducible assumption) | (intro _ e; cases e; done) | (go_simp; first | done | exact rfl)))) hb_w8)
  replace H6 := Lib.hid (IsC.below (v := .agg #[.bool s6, .slice A6 n6 c6]) (z := (G : Int)) (by ((repeat (first | (with_reducible exact H6.out) | (with_reducible refine IsC.al ?_ _) | (with_reducible apply IsC.st1))) <;> (first | (with_reducible assumption) | (intro _ e; cases e; done) | (go_simp; first | done | exact rfl)))) hb_w8)
  have HB8 := Lib.hid (show Below w.heap.size w w8 by have hB := HB7.out; ((with_reducible (repeat (first | exact bR _ _ | refine bS ?_ ?_ _ | refine bA ?_ ?_ _ | refine bD ?_ | refine bT ?_ (by assumption) ?_ | refine bO (by assumption) ?_ ?_))) <;> (first | omega | (simp; done) | (simp <;> omega))))
  have hz8 : w.heap.size + 1 + 1 ≤ w8.heap.size := by omega
  clear hb_w8
  clear c_w7_r1_8_0 c_w7_r1_8_1 fz_w7_r1_8 c_w7_0_0 c_w7_0_1 c_w7_0_2 c_w7_0_3 c_w7_0_4 c_w7_0_5 fz_w7_0 hl_w7_0 c_w7_1_0 c_w7_1_1 c_w7_1_2 c_w7_1_3 c_w7_1_4 c_w7_1_5 fz_w7_1 hl_w7_1
  have H8u := Lib.hid (show IsC w8 (.agg #[.bool s8u, .slice A8u n8u c8u]) (X) from hu8)
  clear hu8
  have H8 := Lib.hid (show IsC w8 (.agg #[.bool s8, .slice A8 n8 c8]) (X2) from hv8)
  clear hv8
  go_wp2_with fail
  -- own blocks: w.heap.size:6, w.heap.size + 1:6, g_r1_8:2, w8.heap.size:2
  (go_at_call 44; refine (K4.out _ _ _ ((RAt.py (show RAt _ (.agg #[.bool s1, .slice A1 n1 c1, .bool s2, .slice A2 n2 c2, .bool s3, .slice A3 n3 c3]) (x) (y) (d) by ((repeat (first | (with_reducible exact H0.out) | (with_reducible refine RAt.al ?_ _) | (with_reducible apply RAt.st1))) <;> (first | (with_reducible assumption) | (intro _ e; cases e; done) | (go_simp; first | done | exact rfl))))).zl LY.out) ((show IsC _ (.agg #[.bool s6, .slice A6 n6 c6]) ((G : Int)) by ((repeat (first | (with_reducible exact H6.out) | (with_reducible refine IsC.al ?_ _) | (with_reducible apply IsC.st1))) <;> (first | (with_reducible assumption) | (intro _ e; cases e; done) | (go_simp; first | done | exact rfl)))).zl LG.out)).mono ?_; rintro e w9 ⟨hb_w9, u9, v9, rfl, hu9, hv9⟩; have hz_w9 := hb_w9.size; (try simp at hz_w9); (with_reducible apply cel6 (b := w.heap.size) hb_w9); (focus ((try simp) <;> omega)); (focus omega); (focus (go_simp; try exact rfl)); (focus (go_simp; try exact rfl)); (focus (go_simp; try exact rfl)); (focus (go_simp; try exact rfl)); (focus (go_simp; try exact rfl)); (focus (go_simp; try exact rfl)); (focus (intro o; go_simp)); intro c_w9_0_0 c_w9_0_1 c_w9_0_2 c_w9_0_3 c_w9_0_4 c_w9_0_5 fz_w9_0 hl_w9_0; (with_reducible apply cel6 (b := w.heap.size + 1) hb_w9); (focus ((try simp) <;> omega)); (focus omega); (focus (go_simp; try exact rfl)); (focus (go_simp; try exact rfl)); (focus (go_simp; try exact rfl)); (focus (go_simp; try exact rfl)); (focus (go_simp; try exact rfl)); (focus (go_simp; try exact rfl)); (focus (intro o; go_simp)); intro c_w9_1_0 c_w9_1_1 c_w9_1_2 c_w9_1_3 c_w9_1_4 c_w9_1_5 fz_w9_1 hl_w9_1; (with_reducible apply cel2 (b := g_r1_8) hb_w9); (focus ((try simp) <;> omega)); (focus omega); (focus (go_simp; try exact rfl)); (focus (go_simp; try exact rfl)); (focus (intro o; go_simp)); intro c_w9_2_0 c_w9_2_1 fz_w9_2 hl_w9_2; (with_reducible apply cel2 (b := w8.heap.size) hb_w9); (focus ((try simp) <;> omega)); (focus omega); (focus (go_simp; try exact rfl)); (focus (go_simp; try exact rfl)); (focus (intro o; go_simp)); intro c_w9_3_0 c_w9_3_1 fz_w9_3 hl_w9_3)
  obtain ⟨s9u, A9u, n9u, c9u, rfl⟩ := IsC.val hu9
  obtain ⟨s9, A9, n9, c9, rfl⟩ := IsC.val hv9
  clear H8
  replace H0 := Lib.hid (RAt.below (v := .agg #[.bool s1, .slice A1 n1 c1, .bool s2, .slice A2 n2 c2, .bool s3, .slice A3 n3 c3]) (x := x) (y := y) (d := d) (by ((repeat (first | (with_reducible exact H0.out) | (with_reducible refine RAt.al ?_ _) | (with_reducible apply RAt.st1))) <;> (first | (with_reducible assumption) | (intro _ e; cases e; done) | (go_simp; first | done | exact rfl)))) hb_w9)
  replace H6 := Lib.hid (IsC.below (v := .agg #[.bool s6, .slice A6 n6 c6]) (z := (G : Int)) (by ((repeat (first | (with_reducible exact H6.out) | (with_reducible refine IsC.al ?_ _) | (with_reducible apply IsC.st1))) <;> (first | (with_reducible assumption) | (intro _ e; cases e; done) | (go_simp; first | done | exact rfl)))) hb_w9)
  replace H8u := Lib.hid (IsC.below (v := .agg #[.bool s8u, .slice A8u n8u c8u]) (z := X) (by ((repeat (first | (with_reducible exact H8u.out) | (with_reducible refine IsC.al ?_ _) | (with_reducible apply IsC.st1))) <;> (first | (with_reducible assumption) | (intro _ e; cases e; done) | (go_simp; first | done | exact rfl)))) hb_w9)
  have HB9 := Lib.hid (show Below w.heap.size w w9 by have hB := HB8.out; ((with_reducible (repeat (first | exact bR _ _ | refine bS ?_ ?_ _ | refine bA ?_ ?_ _ | refine bD ?_ | refine bT ?_ (by assumption) ?_ | refine bO (by assumption) ?_ ?_))) <;> (first | omega | (simp; done) | (simp <;> omega))))
  have hz9 : w.heap.size + 1 + 1 ≤ w9.heap.size := by omega
  clear hb_w9
  clear c_w8_0_0 c_w8_0_1 c_w8_0_2 c_w8_0_3 c_w8_0_4 c_w8_0_5 fz_w8_0 hl_w8_0 c_w8_1_0 c_w8_1_1 c_w8_1_2 c_w8_1_3 c_w8_1_4 c_w8_1_5 fz_w8_1 hl_w8_1 c_w8_2_0 c_w8_2_1 fz_w8_2 hl_w8_2
  have H9u := Lib.hid (show IsC w9 (.agg #[.bool s9u, .slice A9u n9u c9u]) (Y) from hu9)
  clear hu9
  have H9 := Lib.hid (show IsC w9 (.agg #[.bool s9, .slice A9 n9 c9]) (Y2) from hv9)
  clear hv9
  go_wp2_with fail
  -- own blocks: w.heap.size + 1:6, w8.heap.size:2, w9.heap.size:2
  (go_at_call 44; refine (K5.out _ _ _ ((RAt.pd (show RAt _ (.agg #[.bool s1, .slice A1 n1 c1, .bool s2, .slice A2 n2 c2, .bool s3, .slice A3 n3 c3]) (x) (y) (d) by ((repeat (first | (with_reducible exact H0.out) | (with_reducible refine RAt.al ?_ _) | (with_reducible apply RAt.st1))) <;> (first | (with_reducible assumption) | (intro _ e; cases e; done) | (go_simp; first | done | exact rfl))))).zl LD.out) ((show IsC _ (.agg #[.bool s6, .slice A6 n6 c6]) ((G : Int)) by ((repeat (first | (with_reducible exact H6.out) | (with_reducible refine IsC.al ?_ _) | (with_reducible apply IsC.st1))) <;> (first | (with_reducible assumption) | (intro _ e; cases e; done) | (go_simp; first | done | exact rfl)))).zl LG.out)).mono ?_; rintro e w10 ⟨hb_w10, u10, v10, rfl, hu10, hv10⟩; have hz_w10 := hb_w10.size; (try simp at hz_w10); (with_reducible apply cel6 (b := w.heap.size + 1) hb_w10); (focus ((try simp) <;> omega)); (focus omega); (focus (go_simp; try exact rfl)); (focus (go_simp; try exact rfl)); (focus (go_simp; try exact rfl)); (focus (go_simp; try exact rfl)); (focus (go_simp; try exact rfl)); (focus (go_simp; try exact rfl)); (focus (intro o; go_simp)); intro c_w10_0_0 c_w10_0_1 c_w10_0_2 c_w10_0_3 c_w10_0_4 c_w10_0_5 fz_w10_0 hl_w10_0; (with_reducible apply cel2 (b := w8.heap.size) hb_w10); (focus ((try simp) <;> omega)); (focus omega); (focus (go_simp; try exact rfl)); (focus (go_simp; try exact rfl)); (focus (intro o; go_simp)); intro c_w10_1_0 c_w10_1_1 fz_w10_1 hl_w10_1; (with_reducible apply cel2 (b := w9.heap.size) hb_w10); (focus ((try simp) <;> omega)); (focus omega); (focus (go_simp; try exact rfl)); (focus (go_simp; try exact rfl)); (focus (intro o; go_simp)); intro c_w10_2_0 c_w10_2_1 fz_w10_2 hl_w10_2)
  obtain ⟨s10u, A10u, n10u, c10u, rfl⟩ := IsC.val hu10
  obtain ⟨s10, A10, n10, c10, rfl⟩ := IsC.val hv10
  clear H0
  clear H6
  clear H9
  replace H8u := Lib.hid (IsC.below (v := .agg #[.bool s8u, .slice A8u n8u c8u]) (z := X) (by ((repeat (first | (with_reducible exact H8u.out) | (with_reducible refine IsC.al ?_ _) | (with_reducible apply IsC.st1))) <;> (first | (with_reducible assumption) | (intro _ e; cases e; done) | (go_simp; first | done | exact rfl)))) hb_w10)
  replace H9u := Lib.hid (IsC.below (v := .agg #[.bool s9u, .slice A9u n9u c9u]) (z := Y) (by ((repeat (first | (with_reducible exact H9u.out) | (with_reducible refine IsC.al ?_ _) | (with_reducible apply IsC.st1))) <;> (first | (with_reducible assumption) | (intro _ e; cases e; done) | (go_simp; first | done | exact rfl)))) hb_w10)
  have HB10 := Lib.hid (show Below w.heap.size w w10 by have hB := HB9.out; ((with_reducible (repeat (first | exact bR _ _ | refine bS ?_ ?_ _ | refine bA ?_ ?_ _ | refine bD ?_ | refine bT ?_ (by assumption) ?_ | refine bO (by assumption) ?_ ?_))) <;> (first | omega | (simp; done) | (simp <;> omega))))
  have hz10 : w.heap.size + 1 + 1 ≤ w10.heap.size := by omega
  clear hb_w10
  clear c_w9_0_0 c_w9_0_1 c_w9_0_2 c_w9_0_3 c_w9_0_4 c_w9_0_5 fz_w9_0 hl_w9_0 c_w9_1_0 c_w9_1_1 c_w9_1_2 c_w9_1_3 c_w9_1_4 c_w9_1_5 fz_w9_1 hl_w9_1 c_w9_2_0 c_w9_2_1 fz_w9_2 hl_w9_2 c_w9_3_0 c_w9_3_1 fz_w9_3 hl_w9_3
  have H10u := Lib.hid (show IsC w10 (.agg #[.bool s10u, .slice A10u n10u c10u]) (D) from hu10)
  clear hu10
  have H10 := Lib.hid (show IsC w10 (.agg #[.bool s10, .slice A10 n10 c10]) (D2) from hv10)
  clear hv10
  go_wp2_with fail
  -- own blocks: w.heap.size + 1:6
  refine bodyPost_ret (v := .agg #[.bool s8u, .slice A8u n8u c8u, .bool s9u, .slice A9u n9u c9u, .bool s10u, .slice A10u n10u c10u]) (by simp only [results, Try.results43]; go_simp) rfl ⟨?_, ?_⟩
  · have hB := HB10.out; ((with_reducible (repeat (first | exact bR _ _ | refine bS ?_ ?_ _ | refine bA ?_ ?_ _ | refine bD ?_ | refine bT ?_ (by assumption) ?_ | refine bO (by assumption) ?_ ?_))) <;> (first | omega | (simp; done) | (simp <;> omega)))
  · exact ⟨_, rfl, ⟨_, _, _, _, _, _, _, _, _, _, _, _, rfl, (by ((repeat (first | (with_reducible exact H8u.out) | (with_reducible refine IsC.al ?_ _) | (with_reducible apply IsC.st1))) <;> (first | (with_reducible assumption) | (intro _ e; cases e; done) | (go_simp; first | done | exact rfl)))), (by ((repeat (first | (with_reducible exact H9u.out) | (with_reducible refine IsC.al ?_ _) | (with_reducible apply IsC.st1))) <;> (first | (with_reducible assumption) | (intro _ e; cases e; done) | (go_simp; first | done | exact rfl)))), (by ((repeat (first | (with_reducible exact H10u.out) | (with_reducible refine IsC.al ?_ _) | (with_reducible apply IsC.st1))) <;> (first | (with_reducible assumption) | (intro _ e; cases e; done) | (go_simp; first | done | exact rfl))))⟩⟩
end Go.Proofs.Ytgejdaincnclpaa
namespace Go.Proofs.Ytgejdaincnclpaa
open Go Go.RowKit
set_option linter.unusedVariables false
theorem makeFunc_run (fn : Fn) (first cap : Array Value) (w : World) : (Instr.makeFunc fn first cap).run Try.prog w = .ok (.func fn first cap) w := rfl
attribute [local go_sem] makeFunc_run
def statX (v u n m c rest grip : Int) : Int := (16 * v - grip * u) * m - ((16 + rest - grip) * n) * c
/-- A component's numbers are not great. -/
structure SmX (v u n m c rest grip : Int) : Prop where
  v : -4194304 ≤ v ∧ v ≤ 4194304
  u : -4194304 ≤ u ∧ u ≤ 4194304
  n : -4194304 ≤ n ∧ n ≤ 4194304
  m : -17592186044416 ≤ m ∧ m ≤ 17592186044416
  c : -17592186044416 ≤ c ∧ c ≤ 17592186044416
  rest : 0 ≤ rest ∧ rest ≤ 15
  grip : 0 ≤ grip ∧ grip ≤ 15
theorem SmX.parts {v u n m c rest grip : Int} (h : SmX v u n m c rest grip) : (-62914560 ≤ grip * u ∧ grip * u ≤ 62914560) ∧ (-130023424 ≤ (16 + rest - grip) * n ∧ (16 + rest - grip) * n ≤ 130023424) ∧
    (-2361183241434822606848 ≤ (16 * v - grip * u) * m ∧ (16 * v - grip * u) * m ≤ 2361183241434822606848) ∧ (-2361183241434822606848 ≤ ((16 + rest - grip) * n) * c ∧ ((16 + rest - grip) * n) * c ≤ 2361183241434822606848) := by
  obtain ⟨hv, hu, hn, hm, hc, hr, hg⟩ := h
  have m1 := mulB grip u 15 4194304 (by omega) hu
  have m2 := mulB (16 + rest - grip) n 31 4194304 (by omega) hn
  have m3 := mulB (16 * v - grip * u) m 134217728 17592186044416 (by omega) hm
  have m4 := mulB ((16 + rest - grip) * n) c 134217728 17592186044416 (by omega) hc
  omega
theorem SmX.len {v u n m c rest grip : Int} (h : SmX v u n m c rest grip) : (canN (statX v u n m c rest grip).natAbs).length ≤ 10 := by
  obtain ⟨_, _, a, b⟩ := h.parts
  unfold statX
  exact canN_bd (B := 18446744073709551616 * 18446744073709551616) (by omega) (by omega) (by decide)
set_option maxRecDepth 100000 in
set_option maxHeartbeats 8000000 in
theorem static1_any (v u n m c rest grip : Int) (b1 b2 b3 b4 : Nat) (w : World) (hs : SmX v u n m c rest grip)
    (g1 : w.cell? ⟨b1, 0, none⟩ = some (.int .i64 grip)) (g2 : w.cell? ⟨b2, 0, none⟩ = some (.int .i64 m)) (g3 : w.cell? ⟨b3, 0, none⟩ = some (.int .i64 rest)) (g4 : w.cell? ⟨b4, 0, none⟩ = some (.int .i64 c)) :
    Calls Try.prog 62 #[.int .i64 v, .int .i64 u, .int .i64 n, .pointer (some ⟨b1, 0, none⟩), .pointer (some ⟨b2, 0, none⟩), .pointer (some ⟨b3, 0, none⟩), .pointer (some ⟨b4, 0, none⟩)] w (ZOut (statX v u n m c rest grip) w) := by
  have z1 : b1 < w.heap.size := by simpa using World.block_lt_of_cell? w _ g1
  have z2 : b2 < w.heap.size := by simpa using World.block_lt_of_cell? w _ g2
  have z3 : b3 < w.heap.size := by simpa using World.block_lt_of_cell? w _ g3
  have z4 : b4 < w.heap.size := by simpa using World.block_lt_of_cell? w _ g4
  obtain ⟨⟨p1, p2⟩, ⟨p3, p4⟩, p5, p6⟩ := hs.parts
  have hlen := hs.len
  obtain ⟨⟨v1, v2⟩, ⟨u1, u2⟩, ⟨n1, n2⟩, ⟨m1, m2⟩, ⟨c1, c2⟩, ⟨r1, r2⟩, ⟨e1, e2⟩⟩ := hs
  have k1 := fun w => wof_any (16 * v - grip * u) w (by omega) (by omega)
  have k2 := fun w => wof_any m w (by omega) (by omega)
  have k4 := fun w => wof_any ((16 + rest - grip) * n) w (by omega) (by omega)
  have k5 := fun w => wof_any c w (by omega) (by omega)
  have l1 := len_wd (z := 16 * v - grip * u) (by omega) (by omega)
  have l2 := len_wd (z := m) (by omega) (by omega)
  have l4 := len_wd (z := (16 + rest - grip) * n) (by omega) (by omega)
  have l5 := len_wd (z := c) (by omega) (by omega)
  have l3 : (canN ((16 * v - grip * u) * m).natAbs).length ≤ 10 := canN_bd (B := 18446744073709551616 * 18446744073709551616) (by omega) (by omega) (by decide)
  have l6 : (canN ((16 + rest - grip) * n * c).natAbs).length ≤ 10 := canN_bd (B := 18446744073709551616 * 18446744073709551616) (by omega) (by omega) (by decide)
  have K1 := Lib.hid k1
  have K4 := Lib.hid k4
  clear k1 k4
  obtain ⟨P, hP⟩ : ∃ P, P = 16 * v - grip * u := ⟨_, rfl⟩
  obtain ⟨Q, hQ⟩ : ∃ Q, Q = (16 + rest - grip) * n := ⟨_, rfl⟩
  unfold statX at hlen ⊢
  rw [← hP] at l1 l3 hlen ⊢
  rw [← hQ] at l4 l6 hlen ⊢
  have kk1 := fun w => (K1.out w).mono (fun _ _ (h : ZOut (16 * v - grip * u) w _ _) => (show ZOut P w _ _ by rw [hP]; exact h))
  have kk4 := fun w => (K4.out w).mono (fun _ _ (h : ZOut ((16 + rest - grip) * n) w _ _) => (show ZOut Q w _ _ by rw [hQ]; exact h))
  replace K1 := Lib.hid kk1
  replace K4 := Lib.hid kk4
  clear hP hQ kk1 kk4
  have k3 := fun x y w h1 h2 => wmul_any 10 x y P m w h1 h2 (by omega)
  have k6 := fun x y w h1 h2 => wmul_any 10 x y Q c w h1 h2 (by omega)
  have k7 := fun x y w h1 h2 => wsub_any 10 x y (P * m) (Q * c) w h1 h2 (by omega)
  generalize P * m = Z3 at *
  generalize Q * c = Z6 at *
  generalize Z3 - Z6 = Z at *
  have K2 := Lib.hid k2
  have K3 := Lib.hid k3
  have K5 := Lib.hid k5
  have K6 := Lib.hid k6
  have K7 := Lib.hid k7
  have L1 := Lib.hid l1
  have L2 := Lib.hid l2
  have L3 := Lib.hid l3
  have L4 := Lib.hid l4
  have L5 := Lib.hid l5
  have L6 := Lib.hid l6
  have G1 := Lib.hid g1
  have G2 := Lib.hid g2
  have G3 := Lib.hid g3
  have G4 := Lib.hid g4
  clear k2 k3 k5 k6 k7 l1 l2 l3 l4 l5 l6 p5 p6 hlen
  -- names on
  go_enter Try.func62, Try.ntmps62; (try simp only [List.append_eq, List.cons_append, List.nil_append])
  go_wp2_with fail
  -- own blocks: w.heap.size:2
  (refine pin_wp (N := _) (Nat.le_refl _) (fun w2 hb_w2 hz_w2 => ?_); (try simp at hz_w2); (with_reducible apply cel2 (b := w.heap.size) hb_w2); (focus ((try simp) <;> omega)); (focus omega); (focus (go_simp; try exact rfl)); (focus (go_simp; try exact rfl)); (focus (intro o; go_simp)); intro c_w2_0_0 c_w2_0_1 fz_w2_0 hl_w2_0); refine wp_q (fun Q_ HQ_ => ?_); refine wp_region_floatQ w2.heap.size 11 [11] (Nat.le_refl _) (fun _ => True) trivial Cl.tt (by kernel_rfl) (by kernel_rfl) ?_
  have HB2 := Lib.hid (show Below w.heap.size w w2 by ((with_reducible (repeat (first | exact bR _ _ | refine bS ?_ ?_ _ | refine bA ?_ ?_ _ | refine bD ?_ | refine bT ?_ (by assumption) ?_ | refine bO (by assumption) ?_ ?_))) <;> (first | omega | (simp; done) | (simp <;> omega))))
  have hz2 : w.heap.size + 1 ≤ w2.heap.size := by omega
  clear hb_w2
  skip
  have f1 : w2.cell? ⟨b1, 0, none⟩ = some (.int .i64 grip) := (HB2.out.cell (p := ⟨b1, 0, none⟩) z1).trans G1.out
  have f2 : w2.cell? ⟨b2, 0, none⟩ = some (.int .i64 m) := (HB2.out.cell (p := ⟨b2, 0, none⟩) z2).trans G2.out
  have y1 : b1 < w2.heap.size := by omega
  have y2 : b2 < w2.heap.size := by omega
  clear g1 g2 g3 g4
  refine wpQI_start [0, 1, 2, 3, 4, 5] ?_; (iterate 6 (first | (refine wpQI_off (by with_reducible (refine List.getElem?_toArray.trans ?_; (repeat (first | exact List.getElem?_cons_zero | refine List.getElem?_cons_succ.trans ?_)))) (by kernel_rfl) (by exact rfl) (fun K hK => ?_); go_simp; refine hK _ ?_; clear hK K) | ((first | apply wpQI_step (by with_reducible (refine List.getElem?_toArray.trans ?_; (repeat (first | exact List.getElem?_cons_zero | refine List.getElem?_cons_succ.trans ?_)))) (by kernel_rfl) (by exact rfl) | apply wpQI_on (by with_reducible (refine List.getElem?_toArray.trans ?_; (repeat (first | exact List.getElem?_cons_zero | refine List.getElem?_cons_succ.trans ?_)))) (by kernel_rfl) (by exact rfl)); (focus (intro W' hS; have hcS := hS.cells.1; have hfS := hS.cells.2; go_simp; (first | done | exact rfl | exact ⟨rfl, Below.refl _ _⟩ | (go_simp; first | done | exact rfl | exact ⟨rfl, Below.refl _ _⟩)))); intro K hK; go_simp; (try go_bits); refine hK _ ?_; clear hK K))); refine wpQI_nil ?_
  refine wpQI_start [7] ?_; (iterate 1 (first | (refine wpQI_off (by with_reducible (refine List.getElem?_toArray.trans ?_; (repeat (first | exact List.getElem?_cons_zero | refine List.getElem?_cons_succ.trans ?_)))) (by kernel_rfl) (by exact rfl) (fun K hK => ?_); go_simp; refine hK _ ?_; clear hK K) | ((first | apply wpQI_step (by with_reducible (refine List.getElem?_toArray.trans ?_; (repeat (first | exact List.getElem?_cons_zero | refine List.getElem?_cons_succ.trans ?_)))) (by kernel_rfl) (by exact rfl) | apply wpQI_on (by with_reducible (refine List.getElem?_toArray.trans ?_; (repeat (first | exact List.getElem?_cons_zero | refine List.getElem?_cons_succ.trans ?_)))) (by kernel_rfl) (by exact rfl)); (focus (intro W' hS; have hcS := hS.cells.1; have hfS := hS.cells.2; go_simp; (first | done | exact rfl | exact ⟨rfl, Below.refl _ _⟩ | (go_simp; first | done | exact rfl | exact ⟨rfl, Below.refl _ _⟩)))); intro K hK; go_simp; (try go_bits); refine hK _ ?_; clear hK K))); refine wpQI_nil ?_
  apply wpQ_call (i := 6) (by with_reducible (refine List.getElem?_toArray.trans ?_; (repeat (first | exact List.getElem?_cons_zero | refine List.getElem?_cons_succ.trans ?_)))) (by kernel_rfl) (by exact rfl); intro W hF hS; have hcS := hS.1.cells.1; have hfS := hS.1.cells.2; go_simp; (go_at_call 41; refine (K1.out _).mono ?_; rintro e w3 ⟨hb_w3, v3, rfl, hv3⟩; refine XPost.mk _ (fun W => IsC W v3 (P)) hb_w3 (hv3) (IsC.cl _ _) ?_); clear hb_w3 hcS hfS hS hF
  intro K hK; go_simp; (try go_bits); refine hK _ ?_; clear hK K
  obtain ⟨s3, A3, n3, c3, rfl⟩ := IsC.val hv3
  clear hv3
  apply wpQ_call (i := 8) (by with_reducible (refine List.getElem?_toArray.trans ?_; (repeat (first | exact List.getElem?_cons_zero | refine List.getElem?_cons_succ.trans ?_)))) (by kernel_rfl) (by exact rfl); intro W hF hS; have hcS := hS.1.cells.1; have hfS := hS.1.cells.2; go_simp; (go_at_call 41; refine (K2.out _).mono ?_; rintro e w4 ⟨hb_w4, v4, rfl, hv4⟩; refine XPost.mk _ (fun W => IsC W v4 (m)) hb_w4 (hv4) (IsC.cl _ _) ?_); clear hb_w4 hcS hfS hS hF
  intro K hK; go_simp; (try go_bits); refine hK _ ?_; clear hK K
  obtain ⟨s4, A4, n4, c4, rfl⟩ := IsC.val hv4
  clear hv4
  apply wpQ_call (i := 9) (by with_reducible (refine List.getElem?_toArray.trans ?_; (repeat (first | exact List.getElem?_cons_zero | refine List.getElem?_cons_succ.trans ?_)))) (by kernel_rfl) (by exact rfl); intro W hF hS; have hcS := hS.1.cells.1; have hfS := hS.1.cells.2; go_simp; (go_at_call 40; refine (K3.out _ _ _ (hF.1.zl L1.out) (hF.2.zl L2.out)).mono ?_; rintro e w5 ⟨hb_w5, v5, rfl, hv5⟩; refine XPost.mk _ (fun W => IsC W v5 (Z3)) hb_w5 (hv5) (IsC.cl _ _) ?_); clear hb_w5 hcS hfS hS hF
  intro K hK; go_simp; (try go_bits); refine hK _ ?_; clear hK K
  obtain ⟨s5, A5, n5, c5, rfl⟩ := IsC.val hv5
  clear hv5
  apply wpQ_fresh (i := 10) LInv.std (by with_reducible (refine List.getElem?_toArray.trans ?_; (repeat (first | exact List.getElem?_cons_zero | refine List.getElem?_cons_succ.trans ?_)))) (by kernel_rfl) (fun g => Value.pointer (some ⟨g, 0, none⟩)) (by exact rfl); (focus (intro W; go_simp; first | done | exact rfl | exact ⟨rfl, rfl⟩))
  intro g_r1_10 hN_r1_10 hG_r1_10 K hK
  go_simp; refine hK _ ?_; clear hK K
  have hne : w.heap.size ≠ g_r1_10 := by have := hN_r1_10; omega
  have hne := Ne.symm hne
  refine wpQ_done (by kernel_rfl) ?_
  intro w6 hF_w6 hSG
  have hz_w6 := hSG.1.1
  have hb_w6 := hSG.1.2
  have hB_r1_10 := (hSG.2 _ (List.mem_cons_self ..)).2; simp only at hB_r1_10; have hl_r1_10 := (hSG.size (List.mem_cons_self ..)); simp only at hl_r1_10
  have c_w6_r1_10_0 := cell_of_row w6 g_r1_10 0 _ _ _ hB_r1_10; simp only [List.getElem?_toArray, List.getElem?_cons_zero] at c_w6_r1_10_0
  have c_w6_r1_10_1 := cell_of_row w6 g_r1_10 1 _ _ _ hB_r1_10; simp only [List.getElem?_toArray, List.getElem?_cons_zero, List.getElem?_cons_succ] at c_w6_r1_10_1
  have fz_w6_r1_10 : (∀ o, w6.frozen? ⟨g_r1_10, o, none⟩ = false) := (fun o => frozen_of_row w6 g_r1_10 o _ _ hB_r1_10); have HH_r1_10 := Lib.hid hB_r1_10; clear hB_r1_10
  clear hSG
  (with_reducible apply cel2 (b := w.heap.size) hb_w6); (focus ((try simp) <;> omega)); (focus omega); (focus (go_simp; try exact rfl)); (focus (go_simp; try exact rfl)); (focus (intro o; go_simp)); intro c_w6_0_0 c_w6_0_1 fz_w6_0 hl_w6_0
  (try simp only [List.filterMap_cons, List.filterMap_nil, List.getElem?_cons_succ, List.getElem?_cons_zero])
  have H3 := Lib.hid (show IsC w6 (.agg #[.bool s3, .slice A3 n3 c3]) (P) from hF_w6.1.1)
  have H4 := Lib.hid (show IsC w6 (.agg #[.bool s4, .slice A4 n4 c4]) (m) from hF_w6.1.2)
  have H5 := Lib.hid (show IsC w6 (.agg #[.bool s5, .slice A5 n5 c5]) (Z3) from hF_w6.2)
  have HB6 := Lib.hid (HB2.out.trans (hb_w6.mono (by have := HB2.out.size; omega)))
  have hz6 : w.heap.size + 1 ≤ w6.heap.size := by omega
  have hn_r1_10 : w.heap.size + 1 ≤ g_r1_10 := by have := hN_r1_10; omega
  clear hF_w6 hb_w6 HH_r1_10 hG_r1_10 hN_r1_10
  clear c_w2_0_0 c_w2_0_1 fz_w2_0 hl_w2_0
  go_wp2_with fail
  refine HQ_.out _ _ _ ?_
  clear HQ_ Q_
  go_wp2_with fail
  -- own blocks: w.heap.size:2, g_r1_10:2
  (refine pin_wp (N := _) (Nat.le_refl _) (fun w7 hb_w7 hz_w7 => ?_); (try simp at hz_w7); (with_reducible apply cel2 (b := w.heap.size) hb_w7); (focus ((try simp) <;> omega)); (focus omega); (focus (go_simp; try exact rfl)); (focus (go_simp; try exact rfl)); (focus (intro o; go_simp)); intro c_w7_0_0 c_w7_0_1 fz_w7_0 hl_w7_0; (with_reducible apply cel2 (b := g_r1_10) hb_w7); (focus ((try simp) <;> omega)); (focus omega); (focus (go_simp; try exact rfl)); (focus (go_simp; try exact rfl)); (focus (intro o; go_simp)); intro c_w7_1_0 c_w7_1_1 fz_w7_1 hl_w7_1); refine wp_q (fun Q_ HQ_ => ?_); refine wp_region_floatQ w7.heap.size 12 [12] (Nat.le_refl _) (fun _ => True) trivial Cl.tt (by kernel_rfl) (by kernel_rfl) ?_
  clear H3
  clear H4
  replace H5 := Lib.hid (IsC.below (v := .agg #[.bool s5, .slice A5 n5 c5]) (z := Z3) (by ((repeat (first | (with_reducible exact H5.out) | (with_reducible refine IsC.al ?_ _) | (with_reducible apply IsC.st1))) <;> (first | (with_reducible assumption) | (intro _ e; cases e; done) | (go_simp; first | done | exact rfl)))) hb_w7)
  have HB7 := Lib.hid (show Below w.heap.size w w7 by have hB := HB6.out; ((with_reducible (repeat (first | exact bR _ _ | refine bS ?_ ?_ _ | refine bA ?_ ?_ _ | refine bD ?_ | refine bT ?_ (by assumption) ?_ | refine bO (by assumption) ?_ ?_))) <;> (first | omega | (simp; done) | (simp <;> omega))))
  have hz7 : w.heap.size + 1 ≤ w7.heap.size := by omega
  clear hb_w7
  clear c_w6_r1_10_0 c_w6_r1_10_1 fz_w6_r1_10 c_w6_0_0 c_w6_0_1 fz_w6_0 hl_w6_0
  have f1 : w7.cell? ⟨b1, 0, none⟩ = some (.int .i64 grip) := (HB7.out.cell (p := ⟨b1, 0, none⟩) z1).trans G1.out
  have f3 : w7.cell? ⟨b3, 0, none⟩ = some (.int .i64 rest) := (HB7.out.cell (p := ⟨b3, 0, none⟩) z3).trans G3.out
  have f4 : w7.cell? ⟨b4, 0, none⟩ = some (.int .i64 c) := (HB7.out.cell (p := ⟨b4, 0, none⟩) z4).trans G4.out
  have y1 : b1 < w7.heap.size := by omega
  have y3 : b3 < w7.heap.size := by omega
  have y4 : b4 < w7.heap.size := by omega
  refine wpQI_start [0, 1, 2, 3, 4, 5, 6] ?_; (iterate 7 (first | (refine wpQI_off (by with_reducible (refine List.getElem?_toArray.trans ?_; (repeat (first | exact List.getElem?_cons_zero | refine List.getElem?_cons_succ.trans ?_)))) (by kernel_rfl) (by exact rfl) (fun K hK => ?_); go_simp; refine hK _ ?_; clear hK K) | ((first | apply wpQI_step (by with_reducible (refine List.getElem?_toArray.trans ?_; (repeat (first | exact List.getElem?_cons_zero | refine List.getElem?_cons_succ.trans ?_)))) (by kernel_rfl) (by exact rfl) | apply wpQI_on (by with_reducible (refine List.getElem?_toArray.trans ?_; (repeat (first | exact List.getElem?_cons_zero | refine List.getElem?_cons_succ.trans ?_)))) (by kernel_rfl) (by exact rfl)); (focus (intro W' hS; have hcS := hS.cells.1; have hfS := hS.cells.2; go_simp; (first | done | exact rfl | exact ⟨rfl, Below.refl _ _⟩ | (go_simp; first | done | exact rfl | exact ⟨rfl, Below.refl _ _⟩)))); intro K hK; go_simp; (try go_bits); refine hK _ ?_; clear hK K))); refine wpQI_nil ?_
  refine wpQI_start [8] ?_; (iterate 1 (first | (refine wpQI_off (by with_reducible (refine List.getElem?_toArray.trans ?_; (repeat (first | exact List.getElem?_cons_zero | refine List.getElem?_cons_succ.trans ?_)))) (by kernel_rfl) (by exact rfl) (fun K hK => ?_); go_simp; refine hK _ ?_; clear hK K) | ((first | apply wpQI_step (by with_reducible (refine List.getElem?_toArray.trans ?_; (repeat (first | exact List.getElem?_cons_zero | refine List.getElem?_cons_succ.trans ?_)))) (by kernel_rfl) (by exact rfl) | apply wpQI_on (by with_reducible (refine List.getElem?_toArray.trans ?_; (repeat (first | exact List.getElem?_cons_zero | refine List.getElem?_cons_succ.trans ?_)))) (by kernel_rfl) (by exact rfl)); (focus (intro W' hS; have hcS := hS.cells.1; have hfS := hS.cells.2; go_simp; (first | done | exact rfl | exact ⟨rfl, Below.refl _ _⟩ | (go_simp; first | done | exact rfl | exact ⟨rfl, Below.refl _ _⟩)))); intro K hK; go_simp; (try go_bits); refine hK _ ?_; clear hK K))); refine wpQI_nil ?_
  apply wpQ_call (i := 7) (by with_reducible (refine List.getElem?_toArray.trans ?_; (repeat (first | exact List.getElem?_cons_zero | refine List.getElem?_cons_succ.trans ?_)))) (by kernel_rfl) (by exact rfl); intro W hF hS; have hcS := hS.1.cells.1; have hfS := hS.1.cells.2; go_simp; (go_at_call 41; refine (K4.out _).mono ?_; rintro e w8 ⟨hb_w8, v8, rfl, hv8⟩; refine XPost.mk _ (fun W => IsC W v8 (Q)) hb_w8 (hv8) (IsC.cl _ _) ?_); clear hb_w8 hcS hfS hS hF
  intro K hK; go_simp; (try go_bits); refine hK _ ?_; clear hK K
  obtain ⟨s8, A8, n8, c8, rfl⟩ := IsC.val hv8
  clear hv8
  apply wpQ_call (i := 9) (by with_reducible (refine List.getElem?_toArray.trans ?_; (repeat (first | exact List.getElem?_cons_zero | refine List.getElem?_cons_succ.trans ?_)))) (by kernel_rfl) (by exact rfl); intro W hF hS; have hcS := hS.1.cells.1; have hfS := hS.1.cells.2; go_simp; (go_at_call 41; refine (K5.out _).mono ?_; rintro e w9 ⟨hb_w9, v9, rfl, hv9⟩; refine XPost.mk _ (fun W => IsC W v9 (c)) hb_w9 (hv9) (IsC.cl _ _) ?_); clear hb_w9 hcS hfS hS hF
  intro K hK; go_simp; (try go_bits); refine hK _ ?_; clear hK K
  obtain ⟨s9, A9, n9, c9, rfl⟩ := IsC.val hv9
  clear hv9
  apply wpQ_call (i := 10) (by with_reducible (refine List.getElem?_toArray.trans ?_; (repeat (first | exact List.getElem?_cons_zero | refine List.getElem?_cons_succ.trans ?_)))) (by kernel_rfl) (by exact rfl); intro W hF hS; have hcS := hS.1.cells.1; have hfS := hS.1.cells.2; go_simp; (go_at_call 40; refine (K6.out _ _ _ (hF.1.zl L4.out) (hF.2.zl L5.out)).mono ?_; rintro e w10 ⟨hb_w10, v10, rfl, hv10⟩; refine XPost.mk _ (fun W => IsC W v10 (Z6)) hb_w10 (hv10) (IsC.cl _ _) ?_); clear hb_w10 hcS hfS hS hF
  intro K hK; go_simp; (try go_bits); refine hK _ ?_; clear hK K
  obtain ⟨s10, A10, n10, c10, rfl⟩ := IsC.val hv10
  clear hv10
  apply wpQ_call (i := 11) (by with_reducible (refine List.getElem?_toArray.trans ?_; (repeat (first | exact List.getElem?_cons_zero | refine List.getElem?_cons_succ.trans ?_)))) (by kernel_rfl) (by exact rfl); intro W hF hS; have hcS := hS.1.cells.1; have hfS := hS.1.cells.2; go_simp; (go_at_call 63; refine (K7.out _ _ _ ((H5.out.below hS.1.2).zl L3.out) (hF.2.zl L6.out)).mono ?_; rintro e w11 ⟨hb_w11, v11, rfl, hv11⟩; refine XPost.mk _ (fun W => IsC W v11 (Z)) hb_w11 (hv11) (IsC.cl _ _) ?_); clear hb_w11 hcS hfS hS hF
  intro K hK; go_simp; (try go_bits); refine hK _ ?_; clear hK K
  obtain ⟨s11, A11, n11, c11, rfl⟩ := IsC.val hv11
  clear hv11
  refine wpQ_done (by kernel_rfl) ?_
  intro w12 hF_w12 hSG
  have hz_w12 := hSG.1.1
  have hb_w12 := hSG.1.2
  clear hSG
  (with_reducible apply cel2 (b := w.heap.size) hb_w12); (focus ((try simp) <;> omega)); (focus omega); (focus (go_simp; try exact rfl)); (focus (go_simp; try exact rfl)); (focus (intro o; go_simp)); intro c_w12_0_0 c_w12_0_1 fz_w12_0 hl_w12_0; (with_reducible apply cel2 (b := g_r1_10) hb_w12); (focus ((try simp) <;> omega)); (focus omega); (focus (go_simp; try exact rfl)); (focus (go_simp; try exact rfl)); (focus (intro o; go_simp)); intro c_w12_1_0 c_w12_1_1 fz_w12_1 hl_w12_1
  (try simp only [List.filterMap_cons, List.filterMap_nil, List.getElem?_cons_succ, List.getElem?_cons_zero])
  clear H5
  have H8 := Lib.hid (show IsC w12 (.agg #[.bool s8, .slice A8 n8 c8]) (Q) from hF_w12.1.1.1)
  have H9 := Lib.hid (show IsC w12 (.agg #[.bool s9, .slice A9 n9 c9]) (c) from hF_w12.1.1.2)
  have H10 := Lib.hid (show IsC w12 (.agg #[.bool s10, .slice A10 n10 c10]) (Z6) from hF_w12.1.2)
  have H11 := Lib.hid (show IsC w12 (.agg #[.bool s11, .slice A11 n11 c11]) (Z) from hF_w12.2)
  have HB12 := Lib.hid (HB7.out.trans (hb_w12.mono (by have := HB7.out.size; omega)))
  have hz12 : w.heap.size + 1 ≤ w12.heap.size := by omega
  clear hF_w12 hb_w12
  clear c_w7_0_0 c_w7_0_1 fz_w7_0 hl_w7_0 c_w7_1_0 c_w7_1_1 fz_w7_1 hl_w7_1
  go_wp2_with fail
  refine HQ_.out _ _ _ ?_
  clear HQ_ Q_
  go_wp2_with fail
  -- own blocks: w.heap.size:2
  refine bodyPost_ret (v := .agg #[.bool s11, .slice A11 n11 c11]) (by simp only [results, Try.results62]; go_simp) rfl ⟨?_, ?_⟩
  · have hB := HB12.out; ((with_reducible (repeat (first | exact bR _ _ | refine bS ?_ ?_ _ | refine bA ?_ ?_ _ | refine bD ?_ | refine bT ?_ (by assumption) ?_ | refine bO (by assumption) ?_ ?_))) <;> (first | omega | (simp; done) | (simp <;> omega)))
  · exact ⟨_, rfl, by ((repeat (first | (with_reducible exact H11.out) | (with_reducible refine IsC.al ?_ _) | (with_reducible apply IsC.st1))) <;> (first | (with_reducible assumption) | (intro _ e; cases e; done) | (go_simp; first | done | exact rfl)))⟩
def lowR (x y d : Int) : Int × Int × Int := (x.tdiv (lowG x y d), y.tdiv (lowG x y d), d.tdiv (lowG x y d))
def statR (v1 v2 w1 w2 n1 n2 rest grip : Int) : Int × Int × Int :=
  if permB v1 v2 w1 w2 n1 n2 = true ∧ (sixB rest && sixB grip) = true then
    if apprB v1 v2 w1 w2 n1 n2 = true then lowR (statX v1 (v1 - w1) n1 (n1 * n1 + n2 * n2) ((v1 - w1) * n1 + (v2 - w2) * n2) rest grip) (statX v2 (v2 - w2) n2 (n1 * n1 + n2 * n2) ((v1 - w1) * n1 + (v2 - w2) * n2) rest grip) (16 * (n1 * n1 + n2 * n2)) else (v1, v2, 1)
  else (0, 0, 0)
theorem perm_bd {v1 v2 w1 w2 n1 n2 : Int} (h : permB v1 v2 w1 w2 n1 n2 = true) : (-1048576 ≤ v1 ∧ v1 ≤ 1048576 ∧ -1048576 ≤ v2 ∧ v2 ≤ 1048576) ∧ (-1048576 ≤ w1 ∧ w1 ≤ 1048576 ∧ -1048576 ≤ w2 ∧ w2 ≤ 1048576) ∧ (-2097152 ≤ n1 ∧ n1 ≤ 2097152 ∧ -2097152 ≤ n2 ∧ n2 ≤ 2097152) := by
  simpa [permB, withinB, and_assoc] using h
theorem perm_vals {v1 v2 w1 w2 n1 n2 : Int} (h : permB v1 v2 w1 w2 n1 n2 = true) : subR v1 v2 w1 w2 = (v1 - w1, v2 - w2) ∧ dotR (v1 - w1) (v2 - w2) n1 n2 = (v1 - w1) * n1 + (v2 - w2) * n2 ∧ dotR n1 n2 n1 n2 = n1 * n1 + n2 * n2 := by
  obtain ⟨a, b, c⟩ := perm_bd h
  have h1 : smallB v1 v2 = true := small_of (by omega)
  have h2 : smallB w1 w2 = true := small_of (by omega)
  have h3 : smallB n1 n2 = true := small_of (by omega)
  have h4 : smallB (v1 - w1) (v2 - w2) = true := small_of (by omega)
  unfold subR dotR keptR
  simp [h1, h2, h3, h4]
theorem perm_prod {v1 v2 w1 w2 n1 n2 : Int} (h : permB v1 v2 w1 w2 n1 n2 = true) : (-8796093022208 ≤ (v1 - w1) * n1 + (v2 - w2) * n2 ∧ (v1 - w1) * n1 + (v2 - w2) * n2 ≤ 8796093022208) ∧ 0 ≤ n1 * n1 + n2 * n2 ∧ n1 * n1 + n2 * n2 ≤ 8796093022208 := by
  obtain ⟨a, b, c⟩ := perm_bd h
  have m1 := mulB (v1 - w1) n1 2097152 2097152 (by omega) (by omega)
  have m2 := mulB (v2 - w2) n2 2097152 2097152 (by omega) (by omega)
  have m3 := mulB n1 n1 2097152 2097152 (by omega) (by omega)
  have m4 := mulB n2 n2 2097152 2097152 (by omega) (by omega)
  have q1 : 0 ≤ n1 * n1 := by rcases Int.le_total 0 n1 with h | h; exact Int.mul_nonneg h h; exact Int.mul_nonneg_of_nonpos_of_nonpos h h
  have q2 : 0 ≤ n2 * n2 := by rcases Int.le_total 0 n2 with h | h; exact Int.mul_nonneg h h; exact Int.mul_nonneg_of_nonpos_of_nonpos h h
  omega
theorem appr_bd {v1 v2 w1 w2 n1 n2 : Int} (h : apprB v1 v2 w1 w2 n1 n2 = true) : permB v1 v2 w1 w2 n1 n2 = true ∧ (v1 - w1) * n1 + (v2 - w2) * n2 < 0 ∧ 0 < n1 * n1 + n2 * n2 := by
  unfold apprB at h
  rw [Bool.and_eq_true, decide_eq_true_eq] at h
  obtain ⟨hp, hd⟩ := h
  obtain ⟨e1, e2, e3⟩ := perm_vals hp
  rw [e1] at hd
  simp only at hd
  rw [e2] at hd
  refine ⟨hp, hd, ?_⟩
  have q1 : 0 ≤ n1 * n1 := by rcases Int.le_total 0 n1 with h | h; exact Int.mul_nonneg h h; exact Int.mul_nonneg_of_nonpos_of_nonpos h h
  have q2 : 0 ≤ n2 * n2 := by rcases Int.le_total 0 n2 with h | h; exact Int.mul_nonneg h h; exact Int.mul_nonneg_of_nonpos_of_nonpos h h
  rcases Int.lt_or_le 0 (n1 * n1 + n2 * n2) with h | h
  · exact h
  · exfalso
    have z1 : n1 = 0 := by have := Int.mul_eq_zero.1 (show n1 * n1 = 0 by omega); omega
    have z2 : n2 = 0 := by have := Int.mul_eq_zero.1 (show n2 * n2 = 0 by omega); omega
    subst z1 z2
    simp at hd
theorem isC_zero (w : World) : IsC w (.agg #[.bool false, .slice none 0 0]) 0 := ⟨none, 0, by simp [canN_zero], by simp [canN_zero], by rw [show (0 : Int).natAbs = 0 from rfl, canN_zero]; exact LAt.nil _ _⟩
theorem RAt.zero (w : World) : RAt w (.agg #[.bool false, .slice none 0 0, .bool false, .slice none 0 0, .bool false, .slice none 0 0]) 0 0 0 := ⟨_, _, _, _, _, _, _, _, _, _, _, _, rfl, isC_zero w, isC_zero w, isC_zero w⟩
end Go.Proofs.Ytgejdaincnclpaa
namespace Go.Proofs.Ytgejdaincnclpaa
open Go Go.RowKit
set_option linter.unusedVariables false
attribute [local go_sem] makeFunc_run
theorem sm1 {v1 v2 w1 w2 n1 n2 rest grip : Int} (h : permB v1 v2 w1 w2 n1 n2 = true) (hr : sixB rest = true) (hg : sixB grip = true) : SmX v1 (v1 - w1) n1 (n1 * n1 + n2 * n2) ((v1 - w1) * n1 + (v2 - w2) * n2) rest grip := by
  obtain ⟨a, b, c⟩ := perm_bd h
  obtain ⟨d, e, f⟩ := perm_prod h
  simp only [sixB, decide_eq_true_eq] at hr hg
  exact ⟨by omega, by omega, by omega, by omega, by omega, by omega, by omega⟩
theorem sm2 {v1 v2 w1 w2 n1 n2 rest grip : Int} (h : permB v1 v2 w1 w2 n1 n2 = true) (hr : sixB rest = true) (hg : sixB grip = true) : SmX v2 (v2 - w2) n2 (n1 * n1 + n2 * n2) ((v1 - w1) * n1 + (v2 - w2) * n2) rest grip := by
  obtain ⟨a, b, c⟩ := perm_bd h
  obtain ⟨d, e, f⟩ := perm_prod h
  simp only [sixB, decide_eq_true_eq] at hr hg
  exact ⟨by omega, by omega, by omega, by omega, by omega, by omega, by omega⟩
def TOut (R : Int × Int × Int) (w : World) (e : Ending) (w' : World) : Prop := ROut R.1 R.2.1 R.2.2 w e w'
set_option maxRecDepth 100000 in
set_option maxHeartbeats 8000000 in
theorem static_bad (v1 v2 w1 w2 n1 n2 rest grip : Int) (w : World) (h : ¬ (permB v1 v2 w1 w2 n1 n2 = true ∧ (sixB rest && sixB grip) = true)) :
    Calls Try.prog 38 #[.agg #[.int .i64 v1, .int .i64 v2], .agg #[.int .i64 w1, .int .i64 w2], .agg #[.int .i64 n1, .int .i64 n2], .int .i64 rest, .int .i64 grip] w (ROut 0 0 0 w) := by
  have k1 := fun w => permitted_any v1 v2 w1 w2 n1 n2 w
  have k2 := fun g w => sixteenths_two rest grip g w
  generalize permB v1 v2 w1 w2 n1 n2 = c1 at *
  generalize (sixB rest && sixB grip) = c2 at *
  have K1 := Lib.hid k1
  have K2 := Lib.hid k2
  have H := Lib.hid h
  clear k1 k2 h
  go_enter Try.func38, Try.ntmps38; (try simp only [List.append_eq, List.cons_append, List.nil_append])
  go_wp2_with fail
  -- own blocks: w.heap.size:2, w.heap.size + 1:2, w.heap.size + 1 + 1:2, w.heap.size + 1 + 1 + 1:1, w.heap.size + 1 + 1 + 1 + 1:1, w.heap.size + 1 + 1 + 1 + 1 + 1:6
  (go_at_call 35; refine (K1.out _).mono ?_; rintro e w1 ⟨rfl, hb_w1⟩; have hz_w1 := hb_w1.size; (try simp at hz_w1); (with_reducible apply cel2 (b := w.heap.size) hb_w1); (focus ((try simp) <;> omega)); (focus omega); (focus (go_simp; try exact rfl)); (focus (go_simp; try exact rfl)); (focus (intro o; go_simp)); intro cc cc fz hl; (with_reducible apply cel2 (b := w.heap.size + 1) hb_w1); (focus ((try simp) <;> omega)); (focus omega); (focus (go_simp; try exact rfl)); (focus (go_simp; try exact rfl)); (focus (intro o; go_simp)); intro cc cc fz hl; (with_reducible apply cel2 (b := w.heap.size + 1 + 1) hb_w1); (focus ((try simp) <;> omega)); (focus omega); (focus (go_simp; try exact rfl)); (focus (go_simp; try exact rfl)); (focus (intro o; go_simp)); intro cc cc fz hl; (with_reducible apply cel1 (b := w.heap.size + 1 + 1 + 1) hb_w1); (focus ((try simp) <;> omega)); (focus omega); (focus (go_simp; try exact rfl)); (focus (intro o; go_simp)); intro cc fz hl; (with_reducible apply cel1 (b := w.heap.size + 1 + 1 + 1 + 1) hb_w1); (focus ((try simp) <;> omega)); (focus omega); (focus (go_simp; try exact rfl)); (focus (intro o; go_simp)); intro cc fz hl; (with_reducible apply cel6 (b := w.heap.size + 1 + 1 + 1 + 1 + 1) hb_w1); (focus ((try simp) <;> omega)); (focus omega); (focus (go_simp; try exact rfl)); (focus (go_simp; try exact rfl)); (focus (go_simp; try exact rfl)); (focus (go_simp; try exact rfl)); (focus (go_simp; try exact rfl)); (focus (go_simp; try exact rfl)); (focus (intro o; go_simp)); intro cc cc cc cc cc cc fz hl)
  cases c1
  · go_wp2_with fail
    refine bodyPost_ret (v := .agg #[.bool false, .slice none 0 0, .bool false, .slice none 0 0, .bool false, .slice none 0 0]) (by simp only [results, Try.results38]; go_simp) rfl ⟨?_, ?_⟩
    · ((with_reducible (repeat (first | exact bR _ _ | refine bS ?_ ?_ _ | refine bA ?_ ?_ _ | refine bD ?_ | refine bT ?_ (by assumption) ?_ | refine bO (by assumption) ?_ ?_))) <;> (first | omega | (simp; done) | (simp <;> omega)))
    · exact ⟨_, rfl, RAt.zero _⟩
  · go_wp2_with fail
    (go_at_call 59; refine (K2.out _ _ (by simp) (by go_simp) (by go_simp)).mono ?_; rintro e w2 ⟨rfl, hb_w2⟩; have hz_w2 := hb_w2.size; (try simp at hz_w2); (with_reducible apply cel2 (b := w.heap.size) hb_w2); (focus ((try simp) <;> omega)); (focus omega); (focus (go_simp; try exact rfl)); (focus (go_simp; try exact rfl)); (focus (intro o; go_simp)); intro cc cc fz hl; (with_reducible apply cel2 (b := w.heap.size + 1) hb_w2); (focus ((try simp) <;> omega)); (focus omega); (focus (go_simp; try exact rfl)); (focus (go_simp; try exact rfl)); (focus (intro o; go_simp)); intro cc cc fz hl; (with_reducible apply cel2 (b := w.heap.size + 1 + 1) hb_w2); (focus ((try simp) <;> omega)); (focus omega); (focus (go_simp; try exact rfl)); (focus (go_simp; try exact rfl)); (focus (intro o; go_simp)); intro cc cc fz hl; (with_reducible apply cel1 (b := w.heap.size + 1 + 1 + 1) hb_w2); (focus ((try simp) <;> omega)); (focus omega); (focus (go_simp; try exact rfl)); (focus (intro o; go_simp)); intro cc fz hl; (with_reducible apply cel1 (b := w.heap.size + 1 + 1 + 1 + 1) hb_w2); (focus ((try simp) <;> omega)); (focus omega); (focus (go_simp; try exact rfl)); (focus (intro o; go_simp)); intro cc fz hl; (with_reducible apply cel6 (b := w.heap.size + 1 + 1 + 1 + 1 + 1) hb_w2); (focus ((try simp) <;> omega)); (focus omega); (focus (go_simp; try exact rfl)); (focus (go_simp; try exact rfl)); (focus (go_simp; try exact rfl)); (focus (go_simp; try exact rfl)); (focus (go_simp; try exact rfl)); (focus (go_simp; try exact rfl)); (focus (intro o; go_simp)); intro cc cc cc cc cc cc fz hl)
    cases c2
    · go_wp2_with fail
      refine bodyPost_ret (v := .agg #[.bool false, .slice none 0 0, .bool false, .slice none 0 0, .bool false, .slice none 0 0]) (by simp only [results, Try.results38]; go_simp) rfl ⟨?_, ?_⟩
      · ((with_reducible (repeat (first | exact bR _ _ | refine bS ?_ ?_ _ | refine bA ?_ ?_ _ | refine bD ?_ | refine bT ?_ (by assumption) ?_ | refine bO (by assumption) ?_ ?_))) <;> (first | omega | (simp; done) | (simp <;> omega)))
      · exact ⟨_, rfl, RAt.zero _⟩
    · exact absurd (by simp) H.out
set_option maxRecDepth 100000 in
set_option maxHeartbeats 20000000 in
theorem static_away (v1 v2 w1 w2 n1 n2 rest grip : Int) (w : World) (h : permB v1 v2 w1 w2 n1 n2 = true) (h2 : (sixB rest && sixB grip) = true) (ha : apprB v1 v2 w1 w2 n1 n2 = false) :
    Calls Try.prog 38 #[.agg #[.int .i64 v1, .int .i64 v2], .agg #[.int .i64 w1, .int .i64 w2], .agg #[.int .i64 n1, .int .i64 n2], .int .i64 rest, .int .i64 grip] w (ROut v1 v2 1 w) := by
  obtain ⟨bv, _, _⟩ := perm_bd h
  have k1 := fun w => permitted_any v1 v2 w1 w2 n1 n2 w
  have k2 := fun g w => sixteenths_two rest grip g w
  have k3 := fun w => approaches_any v1 v2 w1 w2 n1 n2 w
  have k4 := fun w => whole_any v1 v2 w (by omega) (by omega)
  rw [h] at k1
  rw [h2] at k2
  rw [ha] at k3
  have K1 := Lib.hid k1
  have K2 := Lib.hid k2
  have K3 := Lib.hid k3
  have K4 := Lib.hid k4
  clear k1 k2 k3 k4 h h2 ha bv
  -- names on
  go_enter Try.func38, Try.ntmps38; (try simp only [List.append_eq, List.cons_append, List.nil_append])
  go_wp2_with fail
  -- own blocks: w.heap.size:2, w.heap.size + 1:2, w.heap.size + 1 + 1:2, w.heap.size + 1 + 1 + 1:1, w.heap.size + 1 + 1 + 1 + 1:1, w.heap.size + 1 + 1 + 1 + 1 + 1:6
  (go_at_call 35; refine (K1.out _).mono ?_; rintro e w2 ⟨rfl, hb_w2⟩; have hz_w2 := hb_w2.size; (try simp at hz_w2); (with_reducible apply cel2 (b := w.heap.size) hb_w2); (focus ((try simp) <;> omega)); (focus omega); (focus (go_simp; try exact rfl)); (focus (go_simp; try exact rfl)); (focus (intro o; go_simp)); intro c_w2_0_0 c_w2_0_1 fz_w2_0 hl_w2_0; (with_reducible apply cel2 (b := w.heap.size + 1) hb_w2); (focus ((try simp) <;> omega)); (focus omega); (focus (go_simp; try exact rfl)); (focus (go_simp; try exact rfl)); (focus (intro o; go_simp)); intro c_w2_1_0 c_w2_1_1 fz_w2_1 hl_w2_1; (with_reducible apply cel2 (b := w.heap.size + 1 + 1) hb_w2); (focus ((try simp) <;> omega)); (focus omega); (focus (go_simp; try exact rfl)); (focus (go_simp; try exact rfl)); (focus (intro o; go_simp)); intro c_w2_2_0 c_w2_2_1 fz_w2_2 hl_w2_2; (with_reducible apply cel1 (b := w.heap.size + 1 + 1 + 1) hb_w2); (focus ((try simp) <;> omega)); (focus omega); (focus (go_simp; try exact rfl)); (focus (intro o; go_simp)); intro c_w2_3_0 fz_w2_3 hl_w2_3; (with_reducible apply cel1 (b := w.heap.size + 1 + 1 + 1 + 1) hb_w2); (focus ((try simp) <;> omega)); (focus omega); (focus (go_simp; try exact rfl)); (focus (intro o; go_simp)); intro c_w2_4_0 fz_w2_4 hl_w2_4; (with_reducible apply cel6 (b := w.heap.size + 1 + 1 + 1 + 1 + 1) hb_w2); (focus ((try simp) <;> omega)); (focus omega); (focus (go_simp; try exact rfl)); (focus (go_simp; try exact rfl)); (focus (go_simp; try exact rfl)); (focus (go_simp; try exact rfl)); (focus (go_simp; try exact rfl)); (focus (go_simp; try exact rfl)); (focus (intro o; go_simp)); intro c_w2_5_0 c_w2_5_1 c_w2_5_2 c_w2_5_3 c_w2_5_4 c_w2_5_5 fz_w2_5 hl_w2_5)
  have HB2 := Lib.hid (show Below w.heap.size w w2 by ((with_reducible (repeat (first | exact bR _ _ | refine bS ?_ ?_ _ | refine bA ?_ ?_ _ | refine bD ?_ | refine bT ?_ (by assumption) ?_ | refine bO (by assumption) ?_ ?_))) <;> (first | omega | (simp; done) | (simp <;> omega))))
  have hz2 : w.heap.size + 1 + 1 + 1 + 1 + 1 + 1 ≤ w2.heap.size := by omega
  clear hb_w2
  skip
  go_wp2_with fail
  -- own blocks: w.heap.size:2, w.heap.size + 1:2, w.heap.size + 1 + 1:2, w.heap.size + 1 + 1 + 1 + 1 + 1:6
  (go_at_call 59; refine (K2.out _ _ (by simp) (by go_simp) (by go_simp)).mono ?_; rintro e w3 ⟨rfl, hb_w3⟩; have hz_w3 := hb_w3.size; (try simp at hz_w3); (with_reducible apply cel2 (b := w.heap.size) hb_w3); (focus ((try simp) <;> omega)); (focus omega); (focus (go_simp; try exact rfl)); (focus (go_simp; try exact rfl)); (focus (intro o; go_simp)); intro c_w3_0_0 c_w3_0_1 fz_w3_0 hl_w3_0; (with_reducible apply cel2 (b := w.heap.size + 1) hb_w3); (focus ((try simp) <;> omega)); (focus omega); (focus (go_simp; try exact rfl)); (focus (go_simp; try exact rfl)); (focus (intro o; go_simp)); intro c_w3_1_0 c_w3_1_1 fz_w3_1 hl_w3_1; (with_reducible apply cel2 (b := w.heap.size + 1 + 1) hb_w3); (focus ((try simp) <;> omega)); (focus omega); (focus (go_simp; try exact rfl)); (focus (go_simp; try exact rfl)); (focus (intro o; go_simp)); intro c_w3_2_0 c_w3_2_1 fz_w3_2 hl_w3_2; (with_reducible apply cel6 (b := w.heap.size + 1 + 1 + 1 + 1 + 1) hb_w3); (focus ((try simp) <;> omega)); (focus omega); (focus (go_simp; try exact rfl)); (focus (go_simp; try exact rfl)); (focus (go_simp; try exact rfl)); (focus (go_simp; try exact rfl)); (focus (go_simp; try exact rfl)); (focus (go_simp; try exact rfl)); (focus (intro o; go_simp)); intro c_w3_3_0 c_w3_3_1 c_w3_3_2 c_w3_3_3 c_w3_3_4 c_w3_3_5 fz_w3_3 hl_w3_3)
  have HB3 := Lib.hid (show Below w.heap.size w w3 by have hB := HB2.out; ((with_reducible (repeat (first | exact bR _ _ | refine bS ?_ ?_ _ | refine bA ?_ ?_ _ | refine bD ?_ | refine bT ?_ (by assumption) ?_ | refine bO (by assumption) ?_ ?_))) <;> (first | omega | (simp; done) | (simp <;> omega))))
  have hz3 : w.heap.size + 1 + 1 + 1 + 1 + 1 + 1 ≤ w3.heap.size := by omega
  clear hb_w3
  clear c_w2_0_0 c_w2_0_1 fz_w2_0 hl_w2_0 c_w2_1_0 c_w2_1_1 fz_w2_1 hl_w2_1 c_w2_2_0 c_w2_2_1 fz_w2_2 hl_w2_2 c_w2_3_0 fz_w2_3 hl_w2_3 c_w2_4_0 fz_w2_4 hl_w2_4 c_w2_5_0 c_w2_5_1 c_w2_5_2 c_w2_5_3 c_w2_5_4 c_w2_5_5 fz_w2_5 hl_w2_5
  go_wp2_with fail
  -- own blocks: w.heap.size:2, w.heap.size + 1 + 1 + 1 + 1 + 1:6
  (go_at_call 22; refine (K3.out _).mono ?_; rintro e w4 ⟨rfl, hb_w4⟩; have hz_w4 := hb_w4.size; (try simp at hz_w4); (with_reducible apply cel2 (b := w.heap.size) hb_w4); (focus ((try simp) <;> omega)); (focus omega); (focus (go_simp; try exact rfl)); (focus (go_simp; try exact rfl)); (focus (intro o; go_simp)); intro c_w4_0_0 c_w4_0_1 fz_w4_0 hl_w4_0; (with_reducible apply cel6 (b := w.heap.size + 1 + 1 + 1 + 1 + 1) hb_w4); (focus ((try simp) <;> omega)); (focus omega); (focus (go_simp; try exact rfl)); (focus (go_simp; try exact rfl)); (focus (go_simp; try exact rfl)); (focus (go_simp; try exact rfl)); (focus (go_simp; try exact rfl)); (focus (go_simp; try exact rfl)); (focus (intro o; go_simp)); intro c_w4_1_0 c_w4_1_1 c_w4_1_2 c_w4_1_3 c_w4_1_4 c_w4_1_5 fz_w4_1 hl_w4_1)
  have HB4 := Lib.hid (show Below w.heap.size w w4 by have hB := HB3.out; ((with_reducible (repeat (first | exact bR _ _ | refine bS ?_ ?_ _ | refine bA ?_ ?_ _ | refine bD ?_ | refine bT ?_ (by assumption) ?_ | refine bO (by assumption) ?_ ?_))) <;> (first | omega | (simp; done) | (simp <;> omega))))
  have hz4 : w.heap.size + 1 + 1 + 1 + 1 + 1 + 1 ≤ w4.heap.size := by omega
  clear hb_w4
  clear c_w3_0_0 c_w3_0_1 fz_w3_0 hl_w3_0 c_w3_1_0 c_w3_1_1 fz_w3_1 hl_w3_1 c_w3_2_0 c_w3_2_1 fz_w3_2 hl_w3_2 c_w3_3_0 c_w3_3_1 c_w3_3_2 c_w3_3_3 c_w3_3_4 c_w3_3_5 fz_w3_3 hl_w3_3
  go_wp2_with fail
  -- own blocks: w.heap.size + 1 + 1 + 1 + 1 + 1:6
  (go_at_call 60; refine (K4.out _).mono ?_; rintro e w5 ⟨hb_w5, v5, rfl, hv5⟩; have hz_w5 := hb_w5.size; (try simp at hz_w5); (with_reducible apply cel6 (b := w.heap.size + 1 + 1 + 1 + 1 + 1) hb_w5); (focus ((try simp) <;> omega)); (focus omega); (focus (go_simp; try exact rfl)); (focus (go_simp; try exact rfl)); (focus (go_simp; try exact rfl)); (focus (go_simp; try exact rfl)); (focus (go_simp; try exact rfl)); (focus (go_simp; try exact rfl)); (focus (intro o; go_simp)); intro c_w5_0_0 c_w5_0_1 c_w5_0_2 c_w5_0_3 c_w5_0_4 c_w5_0_5 fz_w5_0 hl_w5_0)
  obtain ⟨s5x, A5x, n5x, c5x, s5y, A5y, n5y, c5y, s5d, A5d, n5d, c5d, rfl⟩ := RAt.val hv5
  have HB5 := Lib.hid (show Below w.heap.size w w5 by have hB := HB4.out; ((with_reducible (repeat (first | exact bR _ _ | refine bS ?_ ?_ _ | refine bA ?_ ?_ _ | refine bD ?_ | refine bT ?_ (by assumption) ?_ | refine bO (by assumption) ?_ ?_))) <;> (first | omega | (simp; done) | (simp <;> omega))))
  have hz5 : w.heap.size + 1 + 1 + 1 + 1 + 1 + 1 ≤ w5.heap.size := by omega
  clear hb_w5
  clear c_w4_0_0 c_w4_0_1 fz_w4_0 hl_w4_0 c_w4_1_0 c_w4_1_1 c_w4_1_2 c_w4_1_3 c_w4_1_4 c_w4_1_5 fz_w4_1 hl_w4_1
  have H5 := Lib.hid (show RAt w5 (.agg #[.bool s5x, .slice A5x n5x c5x, .bool s5y, .slice A5y n5y c5y, .bool s5d, .slice A5d n5d c5d]) (v1) (v2) (1) from hv5)
  clear hv5
  go_wp2_with fail
  -- own blocks: w.heap.size + 1 + 1 + 1 + 1 + 1:6
  refine bodyPost_ret (v := .agg #[.bool s5x, .slice A5x n5x c5x, .bool s5y, .slice A5y n5y c5y, .bool s5d, .slice A5d n5d c5d]) (by simp only [results, Try.results38]; go_simp) rfl ⟨?_, ?_⟩
  · have hB := HB5.out; ((with_reducible (repeat (first | exact bR _ _ | refine bS ?_ ?_ _ | refine bA ?_ ?_ _ | refine bD ?_ | refine bT ?_ (by assumption) ?_ | refine bO (by assumption) ?_ ?_))) <;> (first | omega | (simp; done) | (simp <;> omega)))
  · exact ⟨_, rfl, (by ((repeat (first | (with_reducible exact H5.out) | (with_reducible refine RAt.al ?_ _) | (with_reducible apply RAt.st1))) <;> (first | (with_reducible assumption) | (intro _ e; cases e; done) | (go_simp; first | done | exact rfl))))⟩
set_option maxRecDepth 100000 in
set_option maxHeartbeats 20000000 in
theorem static_on (v1 v2 w1 w2 n1 n2 rest grip : Int) (w : World) (h : permB v1 v2 w1 w2 n1 n2 = true) (hr : sixB rest = true) (hg : sixB grip = true) (ha : apprB v1 v2 w1 w2 n1 n2 = true) :
    Calls Try.prog 38 #[.agg #[.int .i64 v1, .int .i64 v2], .agg #[.int .i64 w1, .int .i64 w2], .agg #[.int .i64 n1, .int .i64 n2], .int .i64 rest, .int .i64 grip] w (TOut (lowR (statX v1 (v1 - w1) n1 (n1 * n1 + n2 * n2) ((v1 - w1) * n1 + (v2 - w2) * n2) rest grip) (statX v2 (v2 - w2) n2 (n1 * n1 + n2 * n2) ((v1 - w1) * n1 + (v2 - w2) * n2) rest grip) (16 * (n1 * n1 + n2 * n2))) w) := by
  obtain ⟨bv, bw, bn⟩ := perm_bd h
  obtain ⟨e1, e2, e3⟩ := perm_vals h
  obtain ⟨⟨p1, p2⟩, p3, p4⟩ := perm_prod h
  obtain ⟨_, _, q3⟩ := appr_bd ha
  have t1 := sm1 h hr hg
  have t2 := sm2 h hr hg
  have k1 := fun w => permitted_any v1 v2 w1 w2 n1 n2 w
  have k2 := fun g w => sixteenths_two rest grip g w
  have k3 := fun w => approaches_any v1 v2 w1 w2 n1 n2 w
  have k4 := fun w => vsub_any v1 v2 w1 w2 w
  have k5 := fun w => vdot_any (v1 - w1) (v2 - w2) n1 n2 w
  have k6 := fun w => vdot_any n1 n2 n1 n2 w
  rw [h] at k1
  rw [hr, hg] at k2
  rw [ha] at k3
  rw [e1] at k4
  rw [e2] at k5
  rw [e3] at k6
  simp only [Bool.and_self] at k2
  generalize (v1 - w1) * n1 + (v2 - w2) * n2 = C at *
  generalize n1 * n1 + n2 * n2 = M at *
  have k7 := fun b1 b2 b3 b4 w g1 g2 g3 g4 => static1_any v1 (v1 - w1) n1 M C rest grip b1 b2 b3 b4 w t1 g1 g2 g3 g4
  have k8 := fun b1 b2 b3 b4 w g1 g2 g3 g4 => static1_any v2 (v2 - w2) n2 M C rest grip b1 b2 b3 b4 w t2 g1 g2 g3 g4
  have k9 := fun w => wof_any (16 * M) w (by omega) (by omega)
  have l1 := t1.len
  have l2 := t2.len
  have l3 := len_wd (z := 16 * M) (by omega) (by omega)
  generalize statX v1 (v1 - w1) n1 M C rest grip = X at *
  generalize statX v2 (v2 - w2) n2 M C rest grip = Y at *
  have k10 := fun v w hv => lowest_any X Y (16 * M) v w hv (by omega) (by omega) (by omega) (by omega)
  unfold TOut lowR
  generalize X.tdiv (lowG X Y (16 * M)) = RX at *
  generalize Y.tdiv (lowG X Y (16 * M)) = RY at *
  generalize (16 * M).tdiv (lowG X Y (16 * M)) = RD at *
  have K1 := Lib.hid k1
  have K2 := Lib.hid k2
  have K3 := Lib.hid k3
  have K4 := Lib.hid k4
  have K5 := Lib.hid k5
  have K6 := Lib.hid k6
  have K7 := Lib.hid k7
  have K8 := Lib.hid k8
  have K9 := Lib.hid k9
  have K10 := Lib.hid k10
  obtain ⟨bv1, bv2, bv3, bv4⟩ := bv
  clear k1 k2 k3 k4 k5 k6 k7 k8 k9 k10 h hr hg ha e1 e2 e3 t1 t2 l1 l2 l3
  simp only
  -- names on
  go_enter Try.func38, Try.ntmps38; (try simp only [List.append_eq, List.cons_append, List.nil_append])
  go_wp2_with fail
  -- own blocks: w.heap.size:2, w.heap.size + 1:2, w.heap.size + 1 + 1:2, w.heap.size + 1 + 1 + 1:1, w.heap.size + 1 + 1 + 1 + 1:1, w.heap.size + 1 + 1 + 1 + 1 + 1:6
  (go_at_call 35; refine (K1.out _).mono ?_; rintro e w2 ⟨rfl, hb_w2⟩; have hz_w2 := hb_w2.size; (try simp at hz_w2); (with_reducible apply cel2 (b := w.heap.size) hb_w2); (focus ((try simp) <;> omega)); (focus omega); (focus (go_simp; try exact rfl)); (focus (go_simp; try exact rfl)); (focus (intro o; go_simp)); intro c_w2_0_0 c_w2_0_1 fz_w2_0 hl_w2_0; (with_reducible apply cel2 (b := w.heap.size + 1) hb_w2); (focus ((try simp) <;> omega)); (focus omega); (focus (go_simp; try exact rfl)); (focus (go_simp; try exact rfl)); (focus (intro o; go_simp)); intro c_w2_1_0 c_w2_1_1 fz_w2_1 hl_w2_1; (with_reducible apply cel2 (b := w.heap.size + 1 + 1) hb_w2); (focus ((try simp) <;> omega)); (focus omega); (focus (go_simp; try exact rfl)); (focus (go_simp; try exact rfl)); (focus (intro o; go_simp)); intro c_w2_2_0 c_w2_2_1 fz_w2_2 hl_w2_2; (with_reducible apply cel1 (b := w.heap.size + 1 + 1 + 1) hb_w2); (focus ((try simp) <;> omega)); (focus omega); (focus (go_simp; try exact rfl)); (focus (intro o; go_simp)); intro c_w2_3_0 fz_w2_3 hl_w2_3; (with_reducible apply cel1 (b := w.heap.size + 1 + 1 + 1 + 1) hb_w2); (focus ((try simp) <;> omega)); (focus omega); (focus (go_simp; try exact rfl)); (focus (intro o; go_simp)); intro c_w2_4_0 fz_w2_4 hl_w2_4; (with_reducible apply cel6 (b := w.heap.size + 1 + 1 + 1 + 1 + 1) hb_w2); (focus ((try simp) <;> omega)); (focus omega); (focus (go_simp; try exact rfl)); (focus (go_simp; try exact rfl)); (focus (go_simp; try exact rfl)); (focus (go_simp; try exact rfl)); (focus (go_simp; try exact rfl)); (focus (go_simp; try exact rfl)); (focus (intro o; go_simp)); intro c_w2_5_0 c_w2_5_1 c_w2_5_2 c_w2_5_3 c_w2_5_4 c_w2_5_5 fz_w2_5 hl_w2_5)
  have HB2 := Lib.hid (show Below w.heap.size w w2 by ((with_reducible (repeat (first | exact bR _ _ | refine bS ?_ ?_ _ | refine bA ?_ ?_ _ | refine bD ?_ | refine bT ?_ (by assumption) ?_ | refine bO (by assumption) ?_ ?_))) <;> (first | omega | (simp; done) | (simp <;> omega))))
  have hz2 : w.heap.size + 1 + 1 + 1 + 1 + 1 + 1 ≤ w2.heap.size := by omega
  clear hb_w2
  skip
  go_wp2_with fail
  -- own blocks: w.heap.size:2, w.heap.size + 1:2, w.heap.size + 1 + 1:2, w.heap.size + 1 + 1 + 1:1, w.heap.size + 1 + 1 + 1 + 1:1, w.heap.size + 1 + 1 + 1 + 1 + 1:6
  (go_at_call 59; refine (K2.out _ _ (by simp) (by go_simp) (by go_simp)).mono ?_; rintro e w3 ⟨rfl, hb_w3⟩; have hz_w3 := hb_w3.size; (try simp at hz_w3); (with_reducible apply cel2 (b := w.heap.size) hb_w3); (focus ((try simp) <;> omega)); (focus omega); (focus (go_simp; try exact rfl)); (focus (go_simp; try exact rfl)); (focus (intro o; go_simp)); intro c_w3_0_0 c_w3_0_1 fz_w3_0 hl_w3_0; (with_reducible apply cel2 (b := w.heap.size + 1) hb_w3); (focus ((try simp) <;> omega)); (focus omega); (focus (go_simp; try exact rfl)); (focus (go_simp; try exact rfl)); (focus (intro o; go_simp)); intro c_w3_1_0 c_w3_1_1 fz_w3_1 hl_w3_1; (with_reducible apply cel2 (b := w.heap.size + 1 + 1) hb_w3); (focus ((try simp) <;> omega)); (focus omega); (focus (go_simp; try exact rfl)); (focus (go_simp; try exact rfl)); (focus (intro o; go_simp)); intro c_w3_2_0 c_w3_2_1 fz_w3_2 hl_w3_2; (with_reducible apply cel1 (b := w.heap.size + 1 + 1 + 1) hb_w3); (focus ((try simp) <;> omega)); (focus omega); (focus (go_simp; try exact rfl)); (focus (intro o; go_simp)); intro c_w3_3_0 fz_w3_3 hl_w3_3; (with_reducible apply cel1 (b := w.heap.size + 1 + 1 + 1 + 1) hb_w3); (focus ((try simp) <;> omega)); (focus omega); (focus (go_simp; try exact rfl)); (focus (intro o; go_simp)); intro c_w3_4_0 fz_w3_4 hl_w3_4; (with_reducible apply cel6 (b := w.heap.size + 1 + 1 + 1 + 1 + 1) hb_w3); (focus ((try simp) <;> omega)); (focus omega); (focus (go_simp; try exact rfl)); (focus (go_simp; try exact rfl)); (focus (go_simp; try exact rfl)); (focus (go_simp; try exact rfl)); (focus (go_simp; try exact rfl)); (focus (go_simp; try exact rfl)); (focus (intro o; go_simp)); intro c_w3_5_0 c_w3_5_1 c_w3_5_2 c_w3_5_3 c_w3_5_4 c_w3_5_5 fz_w3_5 hl_w3_5)
  have HB3 := Lib.hid (show Below w.heap.size w w3 by have hB := HB2.out; ((with_reducible (repeat (first | exact bR _ _ | refine bS ?_ ?_ _ | refine bA ?_ ?_ _ | refine bD ?_ | refine bT ?_ (by assumption) ?_ | refine bO (by assumption) ?_ ?_))) <;> (first | omega | (simp; done) | (simp <;> omega))))
  have hz3 : w.heap.size + 1 + 1 + 1 + 1 + 1 + 1 ≤ w3.heap.size := by omega
  clear hb_w3
  clear c_w2_0_0 c_w2_0_1 fz_w2_0 hl_w2_0 c_w2_1_0 c_w2_1_1 fz_w2_1 hl_w2_1 c_w2_2_0 c_w2_2_1 fz_w2_2 hl_w2_2 c_w2_3_0 fz_w2_3 hl_w2_3 c_w2_4_0 fz_w2_4 hl_w2_4 c_w2_5_0 c_w2_5_1 c_w2_5_2 c_w2_5_3 c_w2_5_4 c_w2_5_5 fz_w2_5 hl_w2_5
  go_wp2_with fail
  -- own blocks: w.heap.size:2, w.heap.size + 1:2, w.heap.size + 1 + 1:2, w.heap.size + 1 + 1 + 1:1, w.heap.size + 1 + 1 + 1 + 1:1, w.heap.size + 1 + 1 + 1 + 1 + 1:6
  (go_at_call 22; refine (K3.out _).mono ?_; rintro e w4 ⟨rfl, hb_w4⟩; have hz_w4 := hb_w4.size; (try simp at hz_w4); (with_reducible apply cel2 (b := w.heap.size) hb_w4); (focus ((try simp) <;> omega)); (focus omega); (focus (go_simp; try exact rfl)); (focus (go_simp; try exact rfl)); (focus (intro o; go_simp)); intro c_w4_0_0 c_w4_0_1 fz_w4_0 hl_w4_0; (with_reducible apply cel2 (b := w.heap.size + 1) hb_w4); (focus ((try simp) <;> omega)); (focus omega); (focus (go_simp; try exact rfl)); (focus (go_simp; try exact rfl)); (focus (intro o; go_simp)); intro c_w4_1_0 c_w4_1_1 fz_w4_1 hl_w4_1; (with_reducible apply cel2 (b := w.heap.size + 1 + 1) hb_w4); (focus ((try simp) <;> omega)); (focus omega); (focus (go_simp; try exact rfl)); (focus (go_simp; try exact rfl)); (focus (intro o; go_simp)); intro c_w4_2_0 c_w4_2_1 fz_w4_2 hl_w4_2; (with_reducible apply cel1 (b := w.heap.size + 1 + 1 + 1) hb_w4); (focus ((try simp) <;> omega)); (focus omega); (focus (go_simp; try exact rfl)); (focus (intro o; go_simp)); intro c_w4_3_0 fz_w4_3 hl_w4_3; (with_reducible apply cel1 (b := w.heap.size + 1 + 1 + 1 + 1) hb_w4); (focus ((try simp) <;> omega)); (focus omega); (focus (go_simp; try exact rfl)); (focus (intro o; go_simp)); intro c_w4_4_0 fz_w4_4 hl_w4_4; (with_reducible apply cel6 (b := w.heap.size + 1 + 1 + 1 + 1 + 1) hb_w4); (focus ((try simp) <;> omega)); (focus omega); (focus (go_simp; try exact rfl)); (focus (go_simp; try exact rfl)); (focus (go_simp; try exact rfl)); (focus (go_simp; try exact rfl)); (focus (go_simp; try exact rfl)); (focus (go_simp; try exact rfl)); (focus (intro o; go_simp)); intro c_w4_5_0 c_w4_5_1 c_w4_5_2 c_w4_5_3 c_w4_5_4 c_w4_5_5 fz_w4_5 hl_w4_5)
  have HB4 := Lib.hid (show Below w.heap.size w w4 by have hB := HB3.out; ((with_reducible (repeat (first | exact bR _ _ | refine bS ?_ ?_ _ | refine bA ?_ ?_ _ | refine bD ?_ | refine bT ?_ (by assumption) ?_ | refine bO (by assumption) ?_ ?_))) <;> (first | omega | (simp; done) | (simp <;> omega))))
  have hz4 : w.heap.size + 1 + 1 + 1 + 1 + 1 + 1 ≤ w4.heap.size := by omega
  clear hb_w4
  clear c_w3_0_0 c_w3_0_1 fz_w3_0 hl_w3_0 c_w3_1_0 c_w3_1_1 fz_w3_1 hl_w3_1 c_w3_2_0 c_w3_2_1 fz_w3_2 hl_w3_2 c_w3_3_0 fz_w3_3 hl_w3_3 c_w3_4_0 fz_w3_4 hl_w3_4 c_w3_5_0 c_w3_5_1 c_w3_5_2 c_w3_5_3 c_w3_5_4 c_w3_5_5 fz_w3_5 hl_w3_5
  go_wp2_with fail
  -- own blocks: w.heap.size:2, w.heap.size + 1 + 1:2, w.heap.size + 1 + 1 + 1:1, w.heap.size + 1 + 1 + 1 + 1:1, w.heap.size + 1 + 1 + 1 + 1 + 1:6
  (go_at_call 36; refine (K4.out _).mono ?_; rintro e w5 ⟨rfl, hb_w5⟩; have hz_w5 := hb_w5.size; (try simp at hz_w5); (with_reducible apply cel2 (b := w.heap.size) hb_w5); (focus ((try simp) <;> omega)); (focus omega); (focus (go_simp; try exact rfl)); (focus (go_simp; try exact rfl)); (focus (intro o; go_simp)); intro c_w5_0_0 c_w5_0_1 fz_w5_0 hl_w5_0; (with_reducible apply cel2 (b := w.heap.size + 1 + 1) hb_w5); (focus ((try simp) <;> omega)); (focus omega); (focus (go_simp; try exact rfl)); (focus (go_simp; try exact rfl)); (focus (intro o; go_simp)); intro c_w5_1_0 c_w5_1_1 fz_w5_1 hl_w5_1; (with_reducible apply cel1 (b := w.heap.size + 1 + 1 + 1) hb_w5); (focus ((try simp) <;> omega)); (focus omega); (focus (go_simp; try exact rfl)); (focus (intro o; go_simp)); intro c_w5_2_0 fz_w5_2 hl_w5_2; (with_reducible apply cel1 (b := w.heap.size + 1 + 1 + 1 + 1) hb_w5); (focus ((try simp) <;> omega)); (focus omega); (focus (go_simp; try exact rfl)); (focus (intro o; go_simp)); intro c_w5_3_0 fz_w5_3 hl_w5_3; (with_reducible apply cel6 (b := w.heap.size + 1 + 1 + 1 + 1 + 1) hb_w5); (focus ((try simp) <;> omega)); (focus omega); (focus (go_simp; try exact rfl)); (focus (go_simp; try exact rfl)); (focus (go_simp; try exact rfl)); (focus (go_simp; try exact rfl)); (focus (go_simp; try exact rfl)); (focus (go_simp; try exact rfl)); (focus (intro o; go_simp)); intro c_w5_4_0 c_w5_4_1 c_w5_4_2 c_w5_4_3 c_w5_4_4 c_w5_4_5 fz_w5_4 hl_w5_4)
  have HB5 := Lib.hid (show Below w.heap.size w w5 by have hB := HB4.out; ((with_reducible (repeat (first | exact bR _ _ | refine bS ?_ ?_ _ | refine bA ?_ ?_ _ | refine bD ?_ | refine bT ?_ (by assumption) ?_ | refine bO (by assumption) ?_ ?_))) <;> (first | omega | (simp; done) | (simp <;> omega))))
  have hz5 : w.heap.size + 1 + 1 + 1 + 1 + 1 + 1 ≤ w5.heap.size := by omega
  clear hb_w5
  clear c_w4_0_0 c_w4_0_1 fz_w4_0 hl_w4_0 c_w4_1_0 c_w4_1_1 fz_w4_1 hl_w4_1 c_w4_2_0 c_w4_2_1 fz_w4_2 hl_w4_2 c_w4_3_0 fz_w4_3 hl_w4_3 c_w4_4_0 fz_w4_4 hl_w4_4 c_w4_5_0 c_w4_5_1 c_w4_5_2 c_w4_5_3 c_w4_5_4 c_w4_5_5 fz_w4_5 hl_w4_5
  go_wp2_with fail
  -- own blocks: w.heap.size:2, w.heap.size + 1 + 1:2, w.heap.size + 1 + 1 + 1:1, w.heap.size + 1 + 1 + 1 + 1:1, w.heap.size + 1 + 1 + 1 + 1 + 1:6, w5.heap.size:2
  (refine pin_wp (N := _) (Nat.le_refl _) (fun w6 hb_w6 hz_w6 => ?_); (try simp at hz_w6); (with_reducible apply cel2 (b := w.heap.size) hb_w6); (focus ((try simp) <;> omega)); (focus omega); (focus (go_simp; try exact rfl)); (focus (go_simp; try exact rfl)); (focus (intro o; go_simp)); intro c_w6_0_0 c_w6_0_1 fz_w6_0 hl_w6_0; (with_reducible apply cel2 (b := w.heap.size + 1 + 1) hb_w6); (focus ((try simp) <;> omega)); (focus omega); (focus (go_simp; try exact rfl)); (focus (go_simp; try exact rfl)); (focus (intro o; go_simp)); intro c_w6_1_0 c_w6_1_1 fz_w6_1 hl_w6_1; (with_reducible apply cel1 (b := w.heap.size + 1 + 1 + 1) hb_w6); (focus ((try simp) <;> omega)); (focus omega); (focus (go_simp; try exact rfl)); (focus (intro o; go_simp)); intro c_w6_2_0 fz_w6_2 hl_w6_2; (with_reducible apply cel1 (b := w.heap.size + 1 + 1 + 1 + 1) hb_w6); (focus ((try simp) <;> omega)); (focus omega); (focus (go_simp; try exact rfl)); (focus (intro o; go_simp)); intro c_w6_3_0 fz_w6_3 hl_w6_3; (with_reducible apply cel6 (b := w.heap.size + 1 + 1 + 1 + 1 + 1) hb_w6); (focus ((try simp) <;> omega)); (focus omega); (focus (go_simp; try exact rfl)); (focus (go_simp; try exact rfl)); (focus (go_simp; try exact rfl)); (focus (go_simp; try exact rfl)); (focus (go_simp; try exact rfl)); (focus (go_simp; try exact rfl)); (focus (intro o; go_simp)); intro c_w6_4_0 c_w6_4_1 c_w6_4_2 c_w6_4_3 c_w6_4_4 c_w6_4_5 fz_w6_4 hl_w6_4; (with_reducible apply cel2 (b := w5.heap.size) hb_w6); (focus ((try simp) <;> omega)); (focus omega); (focus (go_simp; try exact rfl)); (focus (go_simp; try exact rfl)); (focus (intro o; go_simp)); intro c_w6_5_0 c_w6_5_1 fz_w6_5 hl_w6_5); refine wp_q (fun Q_ HQ_ => ?_); refine wp_region_floatQ w6.heap.size 8 [8, 9] (Nat.le_refl _) (fun _ => True) trivial Cl.tt (by kernel_rfl) (by kernel_rfl) ?_
  have HB6 := Lib.hid (show Below w.heap.size w w6 by have hB := HB5.out; ((with_reducible (repeat (first | exact bR _ _ | refine bS ?_ ?_ _ | refine bA ?_ ?_ _ | refine bD ?_ | refine bT ?_ (by assumption) ?_ | refine bO (by assumption) ?_ ?_))) <;> (first | omega | (simp; done) | (simp <;> omega))))
  have hz6 : w.heap.size + 1 + 1 + 1 + 1 + 1 + 1 ≤ w6.heap.size := by omega
  clear hb_w6
  clear c_w5_0_0 c_w5_0_1 fz_w5_0 hl_w5_0 c_w5_1_0 c_w5_1_1 fz_w5_1 hl_w5_1 c_w5_2_0 fz_w5_2 hl_w5_2 c_w5_3_0 fz_w5_3 hl_w5_3 c_w5_4_0 c_w5_4_1 c_w5_4_2 c_w5_4_3 c_w5_4_4 c_w5_4_5 fz_w5_4 hl_w5_4
  refine wpQI_start [0, 1] ?_; (iterate 2 (first | (refine wpQI_off (by with_reducible (refine List.getElem?_toArray.trans ?_; (repeat (first | exact List.getElem?_cons_zero | refine List.getElem?_cons_succ.trans ?_)))) (by kernel_rfl) (by exact rfl) (fun K hK => ?_); go_simp; refine hK _ ?_; clear hK K) | ((first | apply wpQI_step (by with_reducible (refine List.getElem?_toArray.trans ?_; (repeat (first | exact List.getElem?_cons_zero | refine List.getElem?_cons_succ.trans ?_)))) (by kernel_rfl) (by exact rfl) | apply wpQI_on (by with_reducible (refine List.getElem?_toArray.trans ?_; (repeat (first | exact List.getElem?_cons_zero | refine List.getElem?_cons_succ.trans ?_)))) (by kernel_rfl) (by exact rfl)); (focus (intro W' hS; have hcS := hS.cells.1; have hfS := hS.cells.2; go_simp; (first | done | exact rfl | exact ⟨rfl, Below.refl _ _⟩ | (go_simp; first | done | exact rfl | exact ⟨rfl, Below.refl _ _⟩)))); intro K hK; go_simp; (try go_bits); refine hK _ ?_; clear hK K))); refine wpQI_nil ?_
  refine wpQI_start [3, 4] ?_; (iterate 2 (first | (refine wpQI_off (by with_reducible (refine List.getElem?_toArray.trans ?_; (repeat (first | exact List.getElem?_cons_zero | refine List.getElem?_cons_succ.trans ?_)))) (by kernel_rfl) (by exact rfl) (fun K hK => ?_); go_simp; refine hK _ ?_; clear hK K) | ((first | apply wpQI_step (by with_reducible (refine List.getElem?_toArray.trans ?_; (repeat (first | exact List.getElem?_cons_zero | refine List.getElem?_cons_succ.trans ?_)))) (by kernel_rfl) (by exact rfl) | apply wpQI_on (by with_reducible (refine List.getElem?_toArray.trans ?_; (repeat (first | exact List.getElem?_cons_zero | refine List.getElem?_cons_succ.trans ?_)))) (by kernel_rfl) (by exact rfl)); (focus (intro W' hS; have hcS := hS.cells.1; have hfS := hS.cells.2; go_simp; (first | done | exact rfl | exact ⟨rfl, Below.refl _ _⟩ | (go_simp; first | done | exact rfl | exact ⟨rfl, Below.refl _ _⟩)))); intro K hK; go_simp; (try go_bits); refine hK _ ?_; clear hK K))); refine wpQI_nil ?_
  refine wpQI_start [2] ?_; (iterate 1 (first | (refine wpQI_off (by with_reducible (refine List.getElem?_toArray.trans ?_; (repeat (first | exact List.getElem?_cons_zero | refine List.getElem?_cons_succ.trans ?_)))) (by kernel_rfl) (by exact rfl) (fun K hK => ?_); go_simp; refine hK _ ?_; clear hK K) | ((first | apply wpQI_step (by with_reducible (refine List.getElem?_toArray.trans ?_; (repeat (first | exact List.getElem?_cons_zero | refine List.getElem?_cons_succ.trans ?_)))) (by kernel_rfl) (by exact rfl) | apply wpQI_on (by with_reducible (refine List.getElem?_toArray.trans ?_; (repeat (first | exact List.getElem?_cons_zero | refine List.getElem?_cons_succ.trans ?_)))) (by kernel_rfl) (by exact rfl)); (focus (intro W' hS; have hcS := hS.cells.1; have hfS := hS.cells.2; go_simp; (first | done | exact rfl | exact ⟨rfl, Below.refl _ _⟩ | (go_at_call 11; exact (K5.out _).mono (fun _ _ h => ⟨h.1, h.2⟩)) | (go_simp; first | done | exact rfl | exact ⟨rfl, Below.refl _ _⟩)))); intro K hK; go_simp; (try go_bits); refine hK _ ?_; clear hK K))); refine wpQI_nil ?_
  refine wpQI_start [5] ?_; (iterate 1 (first | (refine wpQI_off (by with_reducible (refine List.getElem?_toArray.trans ?_; (repeat (first | exact List.getElem?_cons_zero | refine List.getElem?_cons_succ.trans ?_)))) (by kernel_rfl) (by exact rfl) (fun K hK => ?_); go_simp; refine hK _ ?_; clear hK K) | ((first | apply wpQI_step (by with_reducible (refine List.getElem?_toArray.trans ?_; (repeat (first | exact List.getElem?_cons_zero | refine List.getElem?_cons_succ.trans ?_)))) (by kernel_rfl) (by exact rfl) | apply wpQI_on (by with_reducible (refine List.getElem?_toArray.trans ?_; (repeat (first | exact List.getElem?_cons_zero | refine List.getElem?_cons_succ.trans ?_)))) (by kernel_rfl) (by exact rfl)); (focus (intro W' hS; have hcS := hS.cells.1; have hfS := hS.cells.2; go_simp; (first | done | exact rfl | exact ⟨rfl, Below.refl _ _⟩ | (go_at_call 11; exact (K6.out _).mono (fun _ _ h => ⟨h.1, h.2⟩)) | (go_simp; first | done | exact rfl | exact ⟨rfl, Below.refl _ _⟩)))); intro K hK; go_simp; (try go_bits); refine hK _ ?_; clear hK K))); refine wpQI_nil ?_
  apply wpQ_fresh (i := 6) LInv.std (by with_reducible (refine List.getElem?_toArray.trans ?_; (repeat (first | exact List.getElem?_cons_zero | refine List.getElem?_cons_succ.trans ?_)))) (by kernel_rfl) (fun g => Value.pointer (some ⟨g, 0, none⟩)) (by exact rfl); (focus (intro W; go_simp; first | done | exact rfl | exact ⟨rfl, rfl⟩))
  intro g_r6_6 hN_r6_6 hG_r6_6 K hK
  go_simp; refine hK _ ?_; clear hK K
  apply wpQ_fresh (i := 7) LInv.std (by with_reducible (refine List.getElem?_toArray.trans ?_; (repeat (first | exact List.getElem?_cons_zero | refine List.getElem?_cons_succ.trans ?_)))) (by kernel_rfl) (fun g => Value.pointer (some ⟨g, 0, none⟩)) (by exact rfl); (focus (intro W; go_simp; first | done | exact rfl | exact ⟨rfl, rfl⟩))
  intro g_r6_7 hN_r6_7 hG_r6_7 K hK
  go_simp; refine hK _ ?_; clear hK K
  have hne_r6_6_r6_7 : g_r6_6 ≠ g_r6_7 := hG_r6_7 _ (List.mem_cons_self ..)
  have hne_r6_7_r6_6 : g_r6_7 ≠ g_r6_6 := Ne.symm hne_r6_6_r6_7
  have hne : w.heap.size ≠ g_r6_6 := by have := hN_r6_6; omega
  have hne := Ne.symm hne
  have hne : w.heap.size ≠ g_r6_7 := by have := hN_r6_7; omega
  have hne := Ne.symm hne
  have hne : w.heap.size + 1 ≠ g_r6_6 := by have := hN_r6_6; omega
  have hne := Ne.symm hne
  have hne : w.heap.size + 1 ≠ g_r6_7 := by have := hN_r6_7; omega
  have hne := Ne.symm hne
  have hne : w.heap.size + 1 + 1 ≠ g_r6_6 := by have := hN_r6_6; omega
  have hne := Ne.symm hne
  have hne : w.heap.size + 1 + 1 ≠ g_r6_7 := by have := hN_r6_7; omega
  have hne := Ne.symm hne
  have hne : w.heap.size + 1 + 1 + 1 ≠ g_r6_6 := by have := hN_r6_6; omega
  have hne := Ne.symm hne
  have hne : w.heap.size + 1 + 1 + 1 ≠ g_r6_7 := by have := hN_r6_7; omega
  have hne := Ne.symm hne
  have hne : w.heap.size + 1 + 1 + 1 + 1 ≠ g_r6_6 := by have := hN_r6_6; omega
  have hne := Ne.symm hne
  have hne : w.heap.size + 1 + 1 + 1 + 1 ≠ g_r6_7 := by have := hN_r6_7; omega
  have hne := Ne.symm hne
  have hne : w.heap.size + 1 + 1 + 1 + 1 + 1 ≠ g_r6_6 := by have := hN_r6_6; omega
  have hne := Ne.symm hne
  have hne : w.heap.size + 1 + 1 + 1 + 1 + 1 ≠ g_r6_7 := by have := hN_r6_7; omega
  have hne := Ne.symm hne
  have hne : w5.heap.size ≠ g_r6_6 := by have := hN_r6_6; omega
  have hne := Ne.symm hne
  have hne : w5.heap.size ≠ g_r6_7 := by have := hN_r6_7; omega
  have hne := Ne.symm hne
  refine wpQ_done (by kernel_rfl) ?_
  intro w7 hF_w7 hSG
  have hz_w7 := hSG.1.1
  have hb_w7 := hSG.1.2
  have hB_r6_7 := (hSG.2 _ (List.mem_cons_self ..)).2; simp only at hB_r6_7; have hl_r6_7 := (hSG.size (List.mem_cons_self ..)); simp only at hl_r6_7
  have c_w7_r6_7_0 := cell_of_row w7 g_r6_7 0 _ _ _ hB_r6_7; simp only [List.getElem?_toArray, List.getElem?_cons_zero] at c_w7_r6_7_0
  have fz_w7_r6_7 : (∀ o, w7.frozen? ⟨g_r6_7, o, none⟩ = false) := (fun o => frozen_of_row w7 g_r6_7 o _ _ hB_r6_7); have HH_r6_7 := Lib.hid hB_r6_7; clear hB_r6_7
  have hB_r6_6 := (hSG.2 _ (List.mem_cons_of_mem _ (List.mem_cons_self ..))).2; simp only at hB_r6_6; have hl_r6_6 := (hSG.size (List.mem_cons_of_mem _ (List.mem_cons_self ..))); simp only at hl_r6_6
  have c_w7_r6_6_0 := cell_of_row w7 g_r6_6 0 _ _ _ hB_r6_6; simp only [List.getElem?_toArray, List.getElem?_cons_zero] at c_w7_r6_6_0
  have fz_w7_r6_6 : (∀ o, w7.frozen? ⟨g_r6_6, o, none⟩ = false) := (fun o => frozen_of_row w7 g_r6_6 o _ _ hB_r6_6); have HH_r6_6 := Lib.hid hB_r6_6; clear hB_r6_6
  clear hSG
  (with_reducible apply cel2 (b := w.heap.size) hb_w7); (focus ((try simp) <;> omega)); (focus omega); (focus (go_simp; try exact rfl)); (focus (go_simp; try exact rfl)); (focus (intro o; go_simp)); intro c_w7_0_0 c_w7_0_1 fz_w7_0 hl_w7_0; (with_reducible apply cel2 (b := w.heap.size + 1 + 1) hb_w7); (focus ((try simp) <;> omega)); (focus omega); (focus (go_simp; try exact rfl)); (focus (go_simp; try exact rfl)); (focus (intro o; go_simp)); intro c_w7_1_0 c_w7_1_1 fz_w7_1 hl_w7_1; (with_reducible apply cel1 (b := w.heap.size + 1 + 1 + 1) hb_w7); (focus ((try simp) <;> omega)); (focus omega); (focus (go_simp; try exact rfl)); (focus (intro o; go_simp)); intro c_w7_2_0 fz_w7_2 hl_w7_2; (with_reducible apply cel1 (b := w.heap.size + 1 + 1 + 1 + 1) hb_w7); (focus ((try simp) <;> omega)); (focus omega); (focus (go_simp; try exact rfl)); (focus (intro o; go_simp)); intro c_w7_3_0 fz_w7_3 hl_w7_3; (with_reducible apply cel6 (b := w.heap.size + 1 + 1 + 1 + 1 + 1) hb_w7); (focus ((try simp) <;> omega)); (focus omega); (focus (go_simp; try exact rfl)); (focus (go_simp; try exact rfl)); (focus (go_simp; try exact rfl)); (focus (go_simp; try exact rfl)); (focus (go_simp; try exact rfl)); (focus (go_simp; try exact rfl)); (focus (intro o; go_simp)); intro c_w7_4_0 c_w7_4_1 c_w7_4_2 c_w7_4_3 c_w7_4_4 c_w7_4_5 fz_w7_4 hl_w7_4; (with_reducible apply cel2 (b := w5.heap.size) hb_w7); (focus ((try simp) <;> omega)); (focus omega); (focus (go_simp; try exact rfl)); (focus (go_simp; try exact rfl)); (focus (intro o; go_simp)); intro c_w7_5_0 c_w7_5_1 fz_w7_5 hl_w7_5
  (try simp only [List.filterMap_cons, List.filterMap_nil, List.getElem?_cons_succ, List.getElem?_cons_zero])
  have HB7 := Lib.hid (HB6.out.trans (hb_w7.mono (by have := HB6.out.size; omega)))
  have hz7 : w.heap.size + 1 + 1 + 1 + 1 + 1 + 1 ≤ w7.heap.size := by omega
  have hn_r6_6 : w.heap.size + 1 + 1 + 1 + 1 + 1 + 1 ≤ g_r6_6 := by have := hN_r6_6; omega
  have hn_r6_7 : w.heap.size + 1 + 1 + 1 + 1 + 1 + 1 ≤ g_r6_7 := by have := hN_r6_7; omega
  clear hF_w7 hb_w7 HH_r6_6 hG_r6_6 hN_r6_6 HH_r6_7 hG_r6_7 hN_r6_7
  clear c_w6_0_0 c_w6_0_1 fz_w6_0 hl_w6_0 c_w6_1_0 c_w6_1_1 fz_w6_1 hl_w6_1 c_w6_2_0 fz_w6_2 hl_w6_2 c_w6_3_0 fz_w6_3 hl_w6_3 c_w6_4_0 c_w6_4_1 c_w6_4_2 c_w6_4_3 c_w6_4_4 c_w6_4_5 fz_w6_4 hl_w6_4 c_w6_5_0 c_w6_5_1 fz_w6_5 hl_w6_5
  go_wp2_with fail
  refine HQ_.out _ _ _ ?_
  clear HQ_ Q_
  go_wp2_with fail
  -- own blocks: w.heap.size:2, w.heap.size + 1 + 1:2, w.heap.size + 1 + 1 + 1:1, w.heap.size + 1 + 1 + 1 + 1:1, w.heap.size + 1 + 1 + 1 + 1 + 1:6, w5.heap.size:2, g_r6_6:1, g_r6_7:1
  (refine pin_wp (N := _) (Nat.le_refl _) (fun w8 hb_w8 hz_w8 => ?_); (try simp at hz_w8); (with_reducible apply cel2 (b := w.heap.size) hb_w8); (focus ((try simp) <;> omega)); (focus omega); (focus (go_simp; try exact rfl)); (focus (go_simp; try exact rfl)); (focus (intro o; go_simp)); intro c_w8_0_0 c_w8_0_1 fz_w8_0 hl_w8_0; (with_reducible apply cel2 (b := w.heap.size + 1 + 1) hb_w8); (focus ((try simp) <;> omega)); (focus omega); (focus (go_simp; try exact rfl)); (focus (go_simp; try exact rfl)); (focus (intro o; go_simp)); intro c_w8_1_0 c_w8_1_1 fz_w8_1 hl_w8_1; (with_reducible apply cel1 (b := w.heap.size + 1 + 1 + 1) hb_w8); (focus ((try simp) <;> omega)); (focus omega); (focus (go_simp; try exact rfl)); (focus (intro o; go_simp)); intro c_w8_2_0 fz_w8_2 hl_w8_2; (with_reducible apply cel1 (b := w.heap.size + 1 + 1 + 1 + 1) hb_w8); (focus ((try simp) <;> omega)); (focus omega); (focus (go_simp; try exact rfl)); (focus (intro o; go_simp)); intro c_w8_3_0 fz_w8_3 hl_w8_3; (with_reducible apply cel6 (b := w.heap.size + 1 + 1 + 1 + 1 + 1) hb_w8); (focus ((try simp) <;> omega)); (focus omega); (focus (go_simp; try exact rfl)); (focus (go_simp; try exact rfl)); (focus (go_simp; try exact rfl)); (focus (go_simp; try exact rfl)); (focus (go_simp; try exact rfl)); (focus (go_simp; try exact rfl)); (focus (intro o; go_simp)); intro c_w8_4_0 c_w8_4_1 c_w8_4_2 c_w8_4_3 c_w8_4_4 c_w8_4_5 fz_w8_4 hl_w8_4; (with_reducible apply cel2 (b := w5.heap.size) hb_w8); (focus ((try simp) <;> omega)); (focus omega); (focus (go_simp; try exact rfl)); (focus (go_simp; try exact rfl)); (focus (intro o; go_simp)); intro c_w8_5_0 c_w8_5_1 fz_w8_5 hl_w8_5; (with_reducible apply cel1 (b := g_r6_6) hb_w8); (focus ((try simp) <;> omega)); (focus omega); (focus (go_simp; try exact rfl)); (focus (intro o; go_simp)); intro c_w8_6_0 fz_w8_6 hl_w8_6; (with_reducible apply cel1 (b := g_r6_7) hb_w8); (focus ((try simp) <;> omega)); (focus omega); (focus (go_simp; try exact rfl)); (focus (intro o; go_simp)); intro c_w8_7_0 fz_w8_7 hl_w8_7); refine wp_q (fun Q_ HQ_ => ?_); refine wp_region_floatQ w8.heap.size 21 [21] (Nat.le_refl _) (fun _ => True) trivial Cl.tt (by kernel_rfl) (by kernel_rfl) ?_
  have HB8 := Lib.hid (show Below w.heap.size w w8 by have hB := HB7.out; ((with_reducible (repeat (first | exact bR _ _ | refine bS ?_ ?_ _ | refine bA ?_ ?_ _ | refine bD ?_ | refine bT ?_ (by assumption) ?_ | refine bO (by assumption) ?_ ?_))) <;> (first | omega | (simp; done) | (simp <;> omega))))
  have hz8 : w.heap.size + 1 + 1 + 1 + 1 + 1 + 1 ≤ w8.heap.size := by omega
  clear hb_w8
  clear c_w7_r6_7_0 fz_w7_r6_7 c_w7_r6_6_0 fz_w7_r6_6 c_w7_0_0 c_w7_0_1 fz_w7_0 hl_w7_0 c_w7_1_0 c_w7_1_1 fz_w7_1 hl_w7_1 c_w7_2_0 fz_w7_2 hl_w7_2 c_w7_3_0 fz_w7_3 hl_w7_3 c_w7_4_0 c_w7_4_1 c_w7_4_2 c_w7_4_3 c_w7_4_4 c_w7_4_5 fz_w7_4 hl_w7_4 c_w7_5_0 c_w7_5_1 fz_w7_5 hl_w7_5
  refine wpQI_start [0, 1, 2, 3, 4, 5, 6] ?_; (iterate 7 (first | (refine wpQI_off (by with_reducible (refine List.getElem?_toArray.trans ?_; (repeat (first | exact List.getElem?_cons_zero | refine List.getElem?_cons_succ.trans ?_)))) (by kernel_rfl) (by exact rfl) (fun K hK => ?_); go_simp; refine hK _ ?_; clear hK K) | ((first | apply wpQI_step (by with_reducible (refine List.getElem?_toArray.trans ?_; (repeat (first | exact List.getElem?_cons_zero | refine List.getElem?_cons_succ.trans ?_)))) (by kernel_rfl) (by exact rfl) | apply wpQI_on (by with_reducible (refine List.getElem?_toArray.trans ?_; (repeat (first | exact List.getElem?_cons_zero | refine List.getElem?_cons_succ.trans ?_)))) (by kernel_rfl) (by exact rfl)); (focus (intro W' hS; have hcS := hS.cells.1; have hfS := hS.cells.2; go_simp; (first | done | exact rfl | exact ⟨rfl, Below.refl _ _⟩ | (go_simp; first | done | exact rfl | exact ⟨rfl, Below.refl _ _⟩)))); intro K hK; go_simp; (try go_bits); refine hK _ ?_; clear hK K))); refine wpQI_nil ?_
  refine wpQI_start [8, 9, 10, 11, 12, 13, 14] ?_; (iterate 7 (first | (refine wpQI_off (by with_reducible (refine List.getElem?_toArray.trans ?_; (repeat (first | exact List.getElem?_cons_zero | refine List.getElem?_cons_succ.trans ?_)))) (by kernel_rfl) (by exact rfl) (fun K hK => ?_); go_simp; refine hK _ ?_; clear hK K) | ((first | apply wpQI_step (by with_reducible (refine List.getElem?_toArray.trans ?_; (repeat (first | exact List.getElem?_cons_zero | refine List.getElem?_cons_succ.trans ?_)))) (by kernel_rfl) (by exact rfl) | apply wpQI_on (by with_reducible (refine List.getElem?_toArray.trans ?_; (repeat (first | exact List.getElem?_cons_zero | refine List.getElem?_cons_succ.trans ?_)))) (by kernel_rfl) (by exact rfl)); (focus (intro W' hS; have hcS := hS.cells.1; have hfS := hS.cells.2; go_simp; (first | done | exact rfl | exact ⟨rfl, Below.refl _ _⟩ | (go_simp; first | done | exact rfl | exact ⟨rfl, Below.refl _ _⟩)))); intro K hK; go_simp; (try go_bits); refine hK _ ?_; clear hK K))); refine wpQI_nil ?_
  refine wpQI_start [16, 17] ?_; (iterate 2 (first | (refine wpQI_off (by with_reducible (refine List.getElem?_toArray.trans ?_; (repeat (first | exact List.getElem?_cons_zero | refine List.getElem?_cons_succ.trans ?_)))) (by kernel_rfl) (by exact rfl) (fun K hK => ?_); go_simp; refine hK _ ?_; clear hK K) | ((first | apply wpQI_step (by with_reducible (refine List.getElem?_toArray.trans ?_; (repeat (first | exact List.getElem?_cons_zero | refine List.getElem?_cons_succ.trans ?_)))) (by kernel_rfl) (by exact rfl) | apply wpQI_on (by with_reducible (refine List.getElem?_toArray.trans ?_; (repeat (first | exact List.getElem?_cons_zero | refine List.getElem?_cons_succ.trans ?_)))) (by kernel_rfl) (by exact rfl)); (focus (intro W' hS; have hcS := hS.cells.1; have hfS := hS.cells.2; go_simp; (first | done | exact rfl | exact ⟨rfl, Below.refl _ _⟩ | (go_simp; first | done | exact rfl | exact ⟨rfl, Below.refl _ _⟩)))); intro K hK; go_simp; (try go_bits); refine hK _ ?_; clear hK K))); refine wpQI_nil ?_
  apply wpQ_call (i := 7) (by with_reducible (refine List.getElem?_toArray.trans ?_; (repeat (first | exact List.getElem?_cons_zero | refine List.getElem?_cons_succ.trans ?_)))) (by kernel_rfl) (by exact rfl); intro W hF hS; have hcS := hS.1.cells.1; have hfS := hS.1.cells.2; go_simp; (go_at_call 62; refine (K7.out _ _ _ _ _ (by go_simp) (by go_simp) (by go_simp) (by go_simp)).mono ?_; rintro e w9 ⟨hb_w9, v9, rfl, hv9⟩; refine XPost.mk _ (fun W => IsC W v9 (X)) hb_w9 (hv9) (IsC.cl _ _) ?_); clear hb_w9 hcS hfS hS hF
  intro K hK; go_simp; (try go_bits); refine hK _ ?_; clear hK K
  obtain ⟨s9, A9, n9, c9, rfl⟩ := IsC.val hv9
  clear hv9
  apply wpQ_call (i := 15) (by with_reducible (refine List.getElem?_toArray.trans ?_; (repeat (first | exact List.getElem?_cons_zero | refine List.getElem?_cons_succ.trans ?_)))) (by kernel_rfl) (by exact rfl); intro W hF hS; have hcS := hS.1.cells.1; have hfS := hS.1.cells.2; go_simp; (go_at_call 62; refine (K8.out _ _ _ _ _ (by go_simp) (by go_simp) (by go_simp) (by go_simp)).mono ?_; rintro e w10 ⟨hb_w10, v10, rfl, hv10⟩; refine XPost.mk _ (fun W => IsC W v10 (Y)) hb_w10 (hv10) (IsC.cl _ _) ?_); clear hb_w10 hcS hfS hS hF
  intro K hK; go_simp; (try go_bits); refine hK _ ?_; clear hK K
  obtain ⟨s10, A10, n10, c10, rfl⟩ := IsC.val hv10
  clear hv10
  apply wpQ_call (i := 18) (by with_reducible (refine List.getElem?_toArray.trans ?_; (repeat (first | exact List.getElem?_cons_zero | refine List.getElem?_cons_succ.trans ?_)))) (by kernel_rfl) (by exact rfl); intro W hF hS; have hcS := hS.1.cells.1; have hfS := hS.1.cells.2; go_simp; (go_at_call 41; refine (K9.out _).mono ?_; rintro e w11 ⟨hb_w11, v11, rfl, hv11⟩; refine XPost.mk _ (fun W => IsC W v11 ((16 * M))) hb_w11 (hv11) (IsC.cl _ _) ?_); clear hb_w11 hcS hfS hS hF
  intro K hK; go_simp; (try go_bits); refine hK _ ?_; clear hK K
  obtain ⟨s11, A11, n11, c11, rfl⟩ := IsC.val hv11
  clear hv11
  refine wpQI_start [19] ?_; (iterate 1 (first | (refine wpQI_off (by with_reducible (refine List.getElem?_toArray.trans ?_; (repeat (first | exact List.getElem?_cons_zero | refine List.getElem?_cons_succ.trans ?_)))) (by kernel_rfl) (by exact rfl) (fun K hK => ?_); go_simp; refine hK _ ?_; clear hK K) | ((first | apply wpQI_step (by with_reducible (refine List.getElem?_toArray.trans ?_; (repeat (first | exact List.getElem?_cons_zero | refine List.getElem?_cons_succ.trans ?_)))) (by kernel_rfl) (by exact rfl) | apply wpQI_on (by with_reducible (refine List.getElem?_toArray.trans ?_; (repeat (first | exact List.getElem?_cons_zero | refine List.getElem?_cons_succ.trans ?_)))) (by kernel_rfl) (by exact rfl)); (focus (intro W' hS; have hcS := hS.cells.1; have hfS := hS.cells.2; go_simp; (first | done | exact rfl | exact ⟨rfl, Below.refl _ _⟩ | (go_simp; first | done | exact rfl | exact ⟨rfl, Below.refl _ _⟩)))); intro K hK; go_simp; (try go_bits); refine hK _ ?_; clear hK K))); refine wpQI_nil ?_
  apply wpQ_call (i := 20) (by with_reducible (refine List.getElem?_toArray.trans ?_; (repeat (first | exact List.getElem?_cons_zero | refine List.getElem?_cons_succ.trans ?_)))) (by kernel_rfl) (by exact rfl); intro W hF hS; have hcS := hS.1.cells.1; have hfS := hS.1.cells.2; go_simp; (go_at_call 43; refine (K10.out _ _ (⟨_, _, _, _, _, _, _, _, _, _, _, _, rfl, hF.1.1, hF.1.2, hF.2⟩)).mono ?_; rintro e w12 ⟨hb_w12, v12, rfl, hv12⟩; refine XPost.mk _ (fun W => RAt W v12 (RX) (RY) (RD)) hb_w12 (hv12) (RAt.cl _ _ _ _) ?_); clear hb_w12 hcS hfS hS hF
  intro K hK; go_simp; (try go_bits); refine hK _ ?_; clear hK K
  obtain ⟨s12x, A12x, n12x, c12x, s12y, A12y, n12y, c12y, s12d, A12d, n12d, c12d, rfl⟩ := RAt.val hv12
  clear hv12
  refine wpQ_done (by kernel_rfl) ?_
  intro w13 hF_w13 hSG
  have hz_w13 := hSG.1.1
  have hb_w13 := hSG.1.2
  clear hSG
  (with_reducible apply cel2 (b := w.heap.size) hb_w13); (focus ((try simp) <;> omega)); (focus omega); (focus (go_simp; try exact rfl)); (focus (go_simp; try exact rfl)); (focus (intro o; go_simp)); intro c_w13_0_0 c_w13_0_1 fz_w13_0 hl_w13_0; (with_reducible apply cel2 (b := w.heap.size + 1 + 1) hb_w13); (focus ((try simp) <;> omega)); (focus omega); (focus (go_simp; try exact rfl)); (focus (go_simp; try exact rfl)); (focus (intro o; go_simp)); intro c_w13_1_0 c_w13_1_1 fz_w13_1 hl_w13_1; (with_reducible apply cel1 (b := w.heap.size + 1 + 1 + 1) hb_w13); (focus ((try simp) <;> omega)); (focus omega); (focus (go_simp; try exact rfl)); (focus (intro o; go_simp)); intro c_w13_2_0 fz_w13_2 hl_w13_2; (with_reducible apply cel1 (b := w.heap.size + 1 + 1 + 1 + 1) hb_w13); (focus ((try simp) <;> omega)); (focus omega); (focus (go_simp; try exact rfl)); (focus (intro o; go_simp)); intro c_w13_3_0 fz_w13_3 hl_w13_3; (with_reducible apply cel6 (b := w.heap.size + 1 + 1 + 1 + 1 + 1) hb_w13); (focus ((try simp) <;> omega)); (focus omega); (focus (go_simp; try exact rfl)); (focus (go_simp; try exact rfl)); (focus (go_simp; try exact rfl)); (focus (go_simp; try exact rfl)); (focus (go_simp; try exact rfl)); (focus (go_simp; try exact rfl)); (focus (intro o; go_simp)); intro c_w13_4_0 c_w13_4_1 c_w13_4_2 c_w13_4_3 c_w13_4_4 c_w13_4_5 fz_w13_4 hl_w13_4; (with_reducible apply cel2 (b := w5.heap.size) hb_w13); (focus ((try simp) <;> omega)); (focus omega); (focus (go_simp; try exact rfl)); (focus (go_simp; try exact rfl)); (focus (intro o; go_simp)); intro c_w13_5_0 c_w13_5_1 fz_w13_5 hl_w13_5; (with_reducible apply cel1 (b := g_r6_6) hb_w13); (focus ((try simp) <;> omega)); (focus omega); (focus (go_simp; try exact rfl)); (focus (intro o; go_simp)); intro c_w13_6_0 fz_w13_6 hl_w13_6; (with_reducible apply cel1 (b := g_r6_7) hb_w13); (focus ((try simp) <;> omega)); (focus omega); (focus (go_simp; try exact rfl)); (focus (intro o; go_simp)); intro c_w13_7_0 fz_w13_7 hl_w13_7
  (try simp only [List.filterMap_cons, List.filterMap_nil, List.getElem?_cons_succ, List.getElem?_cons_zero])
  have H9 := Lib.hid (show IsC w13 (.agg #[.bool s9, .slice A9 n9 c9]) (X) from hF_w13.1.1.1)
  have H10 := Lib.hid (show IsC w13 (.agg #[.bool s10, .slice A10 n10 c10]) (Y) from hF_w13.1.1.2)
  have H11 := Lib.hid (show IsC w13 (.agg #[.bool s11, .slice A11 n11 c11]) ((16 * M)) from hF_w13.1.2)
  have H12 := Lib.hid (show RAt w13 (.agg #[.bool s12x, .slice A12x n12x c12x, .bool s12y, .slice A12y n12y c12y, .bool s12d, .slice A12d n12d c12d]) (RX) (RY) (RD) from hF_w13.2)
  have HB13 := Lib.hid (HB8.out.trans (hb_w13.mono (by have := HB8.out.size; omega)))
  have hz13 : w.heap.size + 1 + 1 + 1 + 1 + 1 + 1 ≤ w13.heap.size := by omega
  clear hF_w13 hb_w13
  clear c_w8_0_0 c_w8_0_1 fz_w8_0 hl_w8_0 c_w8_1_0 c_w8_1_1 fz_w8_1 hl_w8_1 c_w8_2_0 fz_w8_2 hl_w8_2 c_w8_3_0 fz_w8_3 hl_w8_3 c_w8_4_0 c_w8_4_1 c_w8_4_2 c_w8_4_3 c_w8_4_4 c_w8_4_5 fz_w8_4 hl_w8_4 c_w8_5_0 c_w8_5_1 fz_w8_5 hl_w8_5 c_w8_6_0 fz_w8_6 hl_w8_6 c_w8_7_0 fz_w8_7 hl_w8_7
  go_wp2_with fail
  refine HQ_.out _ _ _ ?_
  clear HQ_ Q_
  go_wp2_with fail
  -- own blocks: w.heap.size + 1 + 1 + 1:1, w.heap.size + 1 + 1 + 1 + 1:1, w.heap.size + 1 + 1 + 1 + 1 + 1:6, g_r6_6:1, g_r6_7:1
  refine bodyPost_ret (v := .agg #[.bool s12x, .slice A12x n12x c12x, .bool s12y, .slice A12y n12y c12y, .bool s12d, .slice A12d n12d c12d]) (by simp only [results, Try.results38]; go_simp) rfl ⟨?_, ?_⟩
  · have hB := HB13.out; ((with_reducible (repeat (first | exact bR _ _ | refine bS ?_ ?_ _ | refine bA ?_ ?_ _ | refine bD ?_ | refine bT ?_ (by assumption) ?_ | refine bO (by assumption) ?_ ?_))) <;> (first | omega | (simp; done) | (simp <;> omega)))
  · exact ⟨_, rfl, (by ((repeat (first | (with_reducible exact H12.out) | (with_reducible refine RAt.al ?_ _) | (with_reducible apply RAt.st1))) <;> (first | (with_reducible assumption) | (intro _ e; cases e; done) | (go_simp; first | done | exact rfl))))⟩
end Go.Proofs.Ytgejdaincnclpaa
