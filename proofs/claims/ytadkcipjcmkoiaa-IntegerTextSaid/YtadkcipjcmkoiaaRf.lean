/- The contract of pinballref01.Text. -/
import Derived.Test.YtadkcipjcmkoiaaRb
import Derived.Test.YtadkcipjcmkoiaaIe
import Derived.Laws.Concat
namespace Go.Proofs.Ytadkcipjcmkoiaa
open Go Go.RowKit
set_option linter.unusedVariables false
theorem strOf_append (a b : List Int) : strOf a ++ strOf b = strOf (a ++ b) := by
  unfold strOf
  apply ByteArray.ext
  simp
theorem strOf_size (l : List Int) : (strOf l).size = l.length := by
  unfold strOf
  simp [ByteArray.size]
theorem canN_one {x : Nat} (h0 : x ≠ 0) (h : x < 4294967296) : canN x = [(x : Int)] := by
  rw [canN_pos h0, Nat.mod_eq_of_lt h, Nat.div_eq_of_lt h, canN_zero]
theorem strOf_snoc (lo : List Int) (d : Int) : strOf [d] ++ strOf lo.reverse = strOf (lo ++ [d]).reverse := by
  rw [strOf_append, List.reverse_append]; rfl
set_option maxRecDepth 100000 in
set_option maxHeartbeats 4000000 in
theorem rtext_any (n : Nat) (u : Value) (a : Int) (w : World) (ha : IsZ w u n a) (hn : n ≤ 100000) :
    Calls Try.prog 15 #[u] w fun e w' => e = .returned (.tuple #[.string (textE a).1, .int .i64 (textE a).2]) ∧ Below w.heap.size w w' := by
  have HA := Lib.hid ha
  obtain ⟨p, A, c, l, rfl, hc, hL, hl, hAt, ea, ma, ca⟩ := isZ_open ha
  have hma := fun w' (h : Below w.heap.size w w') => mag_any A l c w' hL (hAt.below h) hc (by omega)
  rw [ma] at hma
  have hlg := fun w' (h : Below w.heap.size w w') => rlarge_any n _ a w' (HA.out.below h) (by omega)
  have hsg := fun w' (h : Below w.heap.size w w') => sign_any n _ a w' (HA.out.below h) (by omega)
  obtain ⟨Z, hZ⟩ : ∃ x, x = a.natAbs := ⟨_, rfl⟩
  rw [← hZ] at hma ca
  obtain ⟨ln, hln⟩ : ∃ q, q = l.length := ⟨_, rfl⟩
  rw [← hln] at hma hlg hsg ⊢
  obtain ⟨q, hq⟩ : ∃ q, q = lgB a := ⟨_, rfl⟩
  rw [← hq] at hlg
  have hdl := digR_limbs ca
  have HMA := Lib.hid hma
  have HLG := Lib.hid hlg
  have HSG := Lib.hid hsg
  clear hma hlg hsg ha hAt ea ma hL hl hln hc HA
  cases q
  · have HE := Lib.hid (show textE a = (strOf (textR a), 0) by unfold textE; rw [← hq]; rfl)
    rw [HE.out]
    clear hq
    by_cases h0 : Z = 0
    · have ha0 : a = 0 := by omega
      have ht : strOf (textR a) = ⟨#[48]⟩ := by rw [ha0]; rfl
      rw [ht]
      subst h0
      have hma := HMA.out
      unfold SlOut at hma
      rw [canN_zero] at hma
      have HMA := Lib.hid hma
      clear HE ht ha0 hZ hma
      go_enter Try.func15, Try.ntmps15; (try simp only [List.append_eq, List.cons_append, List.nil_append])
      go_wp2_with fail
      -- own blocks: w.heap.size:2
      (go_at_call 50; refine (HLG.out _ (by ((with_reducible (repeat (first | exact bR _ _ | refine bS ?_ ?_ _ | refine bA ?_ ?_ _ | refine bD ?_ | refine bT ?_ (by assumption) ?_ | refine bO (by assumption) ?_ ?_))) <;> (first | omega | (simp; done) | (simp <;> omega))))).mono ?_; rintro e w1 ⟨rfl, hb_w1⟩; have hz_w1 := hb_w1.size; (try simp at hz_w1); (with_reducible apply cel2 (b := w.heap.size) hb_w1); (focus ((try simp) <;> omega)); (focus omega); (focus (go_simp; try exact rfl)); (focus (go_simp; try exact rfl)); (focus (intro o; go_simp)); intro cc cc fz hl)
      have HB1 := Lib.hid (show Below w.heap.size w w1 by ((with_reducible (repeat (first | exact bR _ _ | refine bS ?_ ?_ _ | refine bA ?_ ?_ _ | refine bD ?_ | refine bT ?_ (by assumption) ?_ | refine bO (by assumption) ?_ ?_))) <;> (first | omega | (simp; done) | (simp <;> omega))))
      clear hb_w1
      go_wp2_with fail
      (go_at_call 53; refine (HMA.out _ HB1.out).mono ?_; rintro e w2 ⟨hb_w2, A1, c1, rfl, hc1, hA1⟩; have hz_w2 := hb_w2.size; (try simp at hz_w2); (with_reducible apply cel2 (b := w.heap.size) hb_w2); (focus ((try simp) <;> omega)); (focus omega); (focus (go_simp; try exact rfl)); (focus (go_simp; try exact rfl)); (focus (intro o; go_simp)); intro cc cc fz hl)
      have HB2 := Lib.hid (HB1.out.trans (hb_w2.mono (by omega)))
      clear hb_w2 hA1
      go_wp2_with fail
      go_ret2
      exact ⟨rfl, HB2.out⟩
    · have HT := Lib.hid (show textR a = (if a < 0 then [45] else []) ++ (digR Z).reverse by unfold textR; rw [if_neg (by omega), hZ])
      clear hZ
      go_enter Try.func15, Try.ntmps15; (try simp only [List.append_eq, List.cons_append, List.nil_append])
      go_wp2_with fail
      -- own blocks: w.heap.size:2
      (go_at_call 50; refine (HLG.out _ (by ((with_reducible (repeat (first | exact bR _ _ | refine bS ?_ ?_ _ | refine bA ?_ ?_ _ | refine bD ?_ | refine bT ?_ (by assumption) ?_ | refine bO (by assumption) ?_ ?_))) <;> (first | omega | (simp; done) | (simp <;> omega))))).mono ?_; rintro e w1 ⟨rfl, hb_w1⟩; have hz_w1 := hb_w1.size; (try simp at hz_w1); (with_reducible apply cel2 (b := w.heap.size) hb_w1); (focus ((try simp) <;> omega)); (focus omega); (focus (go_simp; try exact rfl)); (focus (go_simp; try exact rfl)); (focus (intro o; go_simp)); intro cc cc fz hl)
      have HB1 := Lib.hid (show Below w.heap.size w w1 by ((with_reducible (repeat (first | exact bR _ _ | refine bS ?_ ?_ _ | refine bA ?_ ?_ _ | refine bD ?_ | refine bT ?_ (by assumption) ?_ | refine bO (by assumption) ?_ ?_))) <;> (first | omega | (simp; done) | (simp <;> omega))))
      have hz1 : w.heap.size + 1 ≤ w1.heap.size := by omega
      clear hb_w1
      go_wp2_with fail
      (go_at_call 53; refine (HMA.out _ HB1.out).mono ?_; rintro e w2 ⟨hb_w2, A1, c1, rfl, hc1, hA1⟩; have hz_w2 := hb_w2.size; (try simp at hz_w2); (with_reducible apply cel2 (b := w.heap.size) hb_w2); (focus ((try simp) <;> omega)); (focus omega); (focus (go_simp; try exact rfl)); (focus (go_simp; try exact rfl)); (focus (intro o; go_simp)); intro cc cc fz hl)
      have HB2 := Lib.hid (HB1.out.trans (hb_w2.mono (by omega)))
      have hz2 : w.heap.size + 1 ≤ w2.heap.size := by omega
      have HA1 := Lib.hid hA1
      have HC1 := Lib.hid hc1
      have hl0 : (canN Z).length ≠ 0 := fun e => h0 (canN_len0.1 e)
      have e0 : (((canN Z).length : Int) == 0) = false := canN_ne0 h0
      clear hb_w2 hA1 hc1 h0
      go_wp2_with fail
      clear hl0
      go_loopg [4, 5] Z (fun gk vm vs wr => ∃ (X : Nat) (lo : List Int) (A : Option Addr) (c : Nat), X = gk ∧ vm = .slice A (canN X).length c ∧ vs = .string (strOf lo.reverse) ∧ (canN X).length ≤ c ∧ (canN X).length ≤ 100000 ∧ Hid (LAt wr A (canN X) ∧ digR Z = lo ++ digR X) ∧ Below w2.heap.size w2 wr)
      case atStart => exact ⟨Z, [], A1, c1, rfl, rfl, rfl, HC1.out, by omega, Lib.hid ⟨HA1.out, rfl⟩, Below.refl _ _⟩
      case round =>
        obtain ⟨X, lo, A3, c3, hgk, rfl, rfl, hc3, hx3, HR, hbel⟩ := hrel
        subst hgk
        obtain ⟨wo, rfl⟩ : ∃ wo : World, wo = wr := ⟨_, rfl⟩
        have HBE := Lib.hid hbel
        have hz := hbel.size
        have hb_wo := hbel
        (with_reducible apply cel2 (b := w.heap.size) hb_wo); (focus ((try simp) <;> omega)); (focus omega); (focus (go_simp; try exact rfl)); (focus (go_simp; try exact rfl)); (focus (intro o; go_simp)); intro cc cc fz hl
        have hlo : lo.length ≤ 1000000 := by
          have := congrArg List.length HR.out.2
          rw [List.length_append] at this
          omega
        clear hb_wo hbel
        by_cases h0 : X = 0
        · have hfin := HR.out.2
          subst h0
          rw [digR_zero, List.append_nil] at hfin
          have j0 : ¬ (0 : Int) < ((canN 0).length : Int) := by rw [canN_zero]; simp
          rw [← hfin] at hlo ⊢
          by_cases hn0 : a < 0
          · have HF := Lib.hid (show strOf (textR a) = ⟨#[45]⟩ ++ strOf (digR Z).reverse by
              rw [HT.out, if_pos hn0, ← strOf_append]; rfl)
            have hs1 : sgn a = -1 := by unfold sgn; rw [if_neg (by omega), if_pos hn0]
            have hsz : ¬ (⟨#[45]⟩ : ByteArray).size + (strOf (digR Z).reverse).size > 9223372036854775807 := by
              rw [strOf_size, List.length_reverse]; show ¬ 1 + _ > _; omega
            have hsz2 := hsz
            rw [hs1] at HSG
            clear hs1 hfin hn0 HT
            go_wp2_with fail
            (go_at_call 43; refine (HSG.out _ (HB2.out.trans (HBE.out.mono (by omega)))).mono ?_; rintro e w5 ⟨rfl, hb_w5⟩; have hz_w5 := hb_w5.size; (try simp at hz_w5); (with_reducible apply cel2 (b := w.heap.size) hb_w5); (focus ((try simp) <;> omega)); (focus omega); (focus (go_simp; try exact rfl)); (focus (go_simp; try exact rfl)); (focus (intro o; go_simp)); intro cc cc fz hl)
            go_wp2_with fail
            go_ret2
            exact ⟨by rw [HF.out]; rfl, (HB2.out.trans (HBE.out.mono (by omega))).trans (hb_w5.mono (by omega))⟩
          · have HF := Lib.hid (show strOf (textR a) = strOf (digR Z).reverse by
              rw [HT.out, if_neg hn0]; rfl)
            obtain ⟨S, hS, hS0⟩ : ∃ S, sgn a = S ∧ ¬ S < 0 := ⟨_, rfl, by unfold sgn; split <;> (try split) <;> omega⟩
            rw [hS] at HSG
            clear hS hfin hn0 HT
            go_wp2_with fail
            (go_at_call 43; refine (HSG.out _ (HB2.out.trans (HBE.out.mono (by omega)))).mono ?_; rintro e w5 ⟨rfl, hb_w5⟩; have hz_w5 := hb_w5.size; (try simp at hz_w5); (with_reducible apply cel2 (b := w.heap.size) hb_w5); (focus ((try simp) <;> omega)); (focus omega); (focus (go_simp; try exact rfl)); (focus (go_simp; try exact rfl)); (focus (intro o; go_simp)); intro cc cc fz hl)
            go_wp2_with fail
            go_ret2
            exact ⟨by rw [HF.out]; rfl, (HB2.out.trans (HBE.out.mono (by omega))).trans (hb_w5.mono (by omega))⟩
        · have hl0 : (canN X).length ≠ 0 := fun e => h0 (canN_len0.1 e)
          have j0 : (0 : Int) < ((canN X).length : Int) := by omega
          have hd9 : canN 1000000000 = [1000000000] := canN_one (x := 1000000000) (by decide) (by decide)
          have hdv := fun B w' (hA : LAt w' A3 (canN X)) (hB : LAt w' B (canN 1000000000)) => divmag_any A3 B X 1000000000 c3 1 w' (by omega) (by rw [hd9]; simp) hA hB hc3 (by rw [hd9]; exact Nat.le_refl 1) (by decide)
          rw [hd9] at hdv
          have HDV := Lib.hid hdv
          have HX0 := Lib.hid h0
          clear hdv hd9 hl0 h0
          go_wp2_with fail
          (go_at_call 54; refine (HDV.out _ _ (HR.out.1.alloc _) (lat_one (by simp) (by go_simp))).mono ?_; rintro e w5 ⟨hb_w5, A5, c5, A6, c6, rfl, hc5, hc6, hA5, hA6⟩; have hz_w5 := hb_w5.size; (try simp at hz_w5); (with_reducible apply cel2 (b := w.heap.size) hb_w5); (focus ((try simp) <;> omega)); (focus omega); (focus (go_simp; try exact rfl)); (focus (go_simp; try exact rfl)); (focus (intro o; go_simp)); intro cc cc fz hl)
          have HB5 := Lib.hid (HBE.out.trans ((show Below wo.heap.size wo w5 by ((with_reducible (repeat (first | exact bR _ _ | refine bS ?_ ?_ _ | refine bA ?_ ?_ _ | refine bD ?_ | refine bT ?_ (by assumption) ?_ | refine bO (by assumption) ?_ ?_))) <;> (first | omega | (simp; done) | (simp <;> omega)))).mono hz))
          have hz5 := HB5.out.size
          have HA5 := Lib.hid hA5
          have HC5 := Lib.hid hc5
          obtain ⟨Q, hQ⟩ : ∃ Q, Q = X / 1000000000 := ⟨_, rfl⟩
          obtain ⟨R, hR⟩ : ∃ R, R = X % 1000000000 := ⟨_, rfl⟩
          rw [← hQ] at HA5 HC5 ⊢
          rw [← hR] at hA6 hc6 ⊢
          have hR9 : R < 1000000000 := by omega
          have HXQ := Lib.hid (show X = Q * 1000000000 + R by omega)
          have hQl : (canN Q).length ≤ 100000 := by rw [hQ]; exact Nat.le_trans (canN_mono (Nat.div_le_self _ _)) hx3
          have HQX := Lib.hid (show Q < X by have := HX0.out; omega)
          clear hQ hR hA5 hc5 hb_w5
          have goal : ∃ xv : Int, xv = (R : Int) := ⟨_, rfl⟩
          by_cases hR0 : R = 0
          · subst hR0
            have hr0 : (canN 0).length = 0 := by rw [canN_zero]; rfl
            simp only [hr0]
            clear hA6 hc6 goal
            go_wp2_with fail
            obtain ⟨lq, hlq⟩ : ∃ q, q = (canN Q).length := ⟨_, rfl⟩
            rw [← hlq]
            have HLQ := Lib.hid hlq
            rw [← hlq] at hQl
            clear hlq
            go_loopw [5, 8, 9] (fun vs vx vk ws => ∃ (k : Nat) (x : Int) (lo2 : List Int), k ≤ 9 ∧ 0 ≤ x ∧ x < 1000000000 ∧ vk = .int .i64 k ∧ vx = .int .u32 x ∧ vs = .string (strOf lo2.reverse) ∧ lo2.length ≤ 1000000 ∧ Hid (x.toNat < 10 ^ (9 - k) ∧ digR Z = lo2 ++ digR (Q * 10 ^ (9 - k) + x.toNat)) ∧ Below w5.heap.size w5 ws) (fun _ _ vk _ => 9 - (intOf vk).toNat)
            case atStart => exact ⟨0, 0, lo, by omega, by omega, by omega, rfl, rfl, rfl, hlo, Lib.hid ⟨by omega, by rw [HR.out.2]; exact congrArg (lo ++ digR ·) HXQ.out⟩, Below.refl _ _⟩
            case round =>
              obtain ⟨k, x, lo2, hk, x0, x1, rfl, rfl, rfl, hlo2, HD, hbel⟩ := hrel
              have HB6 := Lib.hid hbel
              have hz6 := hbel.size
              have k0 : (0 : Int) ≤ (k : Int) := by omega
              clear hbel
              obtain ⟨dv, hdv⟩ : ∃ dv : Int, dv = 48 + x % 10 := ⟨_, rfl⟩
              have hdv2 : 48 + x % 10 = dv := hdv.symm
              have d0 : 0 ≤ dv := by omega
              have d1 : dv < 58 := by omega
              have hdvN : dv = ((48 + x.toNat % 10 : Nat) : Int) := by omega
              have hxd : (x / 10).toNat = x.toNat / 10 := by omega
              have HST : Hid (k < 9 → (0 < x ∨ 0 < lq) → (digR Z = (lo2 ++ [dv]) ++ digR (Q * 10 ^ (9 - (k + 1)) + (x / 10).toNat) ∧ (x / 10).toNat < 10 ^ (9 - (k + 1))) ∧ lo2.length + 1 ≤ 1000000) := Lib.hid (fun hk9 hxq => by
                obtain ⟨m, hm⟩ : ∃ m, 9 - k = m + 1 := ⟨8 - k, by omega⟩
                have hm2 : 9 - (k + 1) = m := by omega
                obtain ⟨h0, h1⟩ := HD.out
                rw [hm] at h0 h1
                have hpos : 0 < Q * 10 ^ (m + 1) + x.toNat := by
                  rcases hxq with h | h
                  · omega
                  · have hQ0 : 0 < Q := by
                      rcases Nat.eq_zero_or_pos Q with e | e
                      · rw [HLQ.out, e, canN_zero] at h; simp at h
                      · exact e
                    have := Nat.mul_pos hQ0 (Nat.pow_pos (n := m + 1) (by decide : 0 < 10))
                    omega
                rw [digR_step hpos] at h1
                rw [hm2, hxd]
                have h2 : digR Z = (lo2 ++ [dv]) ++ digR (Q * 10 ^ m + x.toNat / 10) := by rw [h1, List.append_assoc, hdvN]; rfl
                refine ⟨⟨h2, by rw [Nat.pow_succ] at h0; omega⟩, ?_⟩
                have h3 := congrArg List.length h2
                rw [List.length_append, List.length_append] at h3
                simp at h3
                omega)
              have stop : Hid ((k = 9 ∨ (x = 0 ∧ lq = 0)) → digR Z = lo2 ++ digR Q) := Lib.hid (fun h => by
                obtain ⟨h0, h1⟩ := HD.out
                rcases h with h | ⟨h, h'⟩
                · subst h
                  have hxl : x.toNat = 0 := by simpa using h0
                  rw [hxl] at h1
                  simpa using h1
                · have hq0 := canN_len0.1 (HLQ.out.symm.trans h')
                  rw [h, hq0, Nat.zero_mul, show (0 : Int).toNat = 0 from rfl, Nat.add_zero] at h1
                  rw [hq0]; exact h1)
              have hsz : ¬ (strOf [dv]).size + (strOf lo2.reverse).size > 9223372036854775807 := by
                rw [strOf_size, strOf_size, List.length_reverse]; show ¬ 1 + _ > _; omega
              have hap := strOf_snoc lo2 dv
              clear hdv hdvN hxd HD
              have hcv := run_bytes_string (wr.alloc (.cells #[.int .u8 dv] 5)) wr.heap.size 1 1 [dv] (by intro y hy; simp at hy; omega) rfl (by intro j y hy; rcases j with _ | j <;> simp at hy; subst hy; clear hap hsz hdv2; go_simp)
              by_cases hk9 : k < 9
              · have j7 : (k : Int) < 9 := by omega
                have j8 : decide ((k : Int) < 9) = true := decide_eq_true j7
                by_cases hx0 : 0 < x
                · have j10 : decide (0 < x) = true := decide_eq_true hx0
                  have hfin := HST.out hk9 (.inl hx0)
                  have HFN := Lib.hid hfin
                  clear hfin HST stop
                  go_wp2_with fail
                  go_roundw
                  case rel => exact ⟨k + 1, x / 10, lo2 ++ [dv], by omega, by omega, by omega, by go_num, by go_num, by first | rfl | (rw [hap]; done) | (rw [List.reverse_append]; rfl), by have h5 := HFN.out.2; rw [List.length_append]; exact h5, Lib.hid ⟨HFN.out.1.2, HFN.out.1.1⟩, by have hb := HB6.out; ((with_reducible (repeat (first | exact bR _ _ | refine bS ?_ ?_ _ | refine bA ?_ ?_ _ | refine bD ?_ | refine bT ?_ (by assumption) ?_ | refine bO (by assumption) ?_ ?_))) <;> (first | omega | (simp; done) | (simp <;> omega)))⟩
                  case measure => simp [intOf]; omega
                · have j10 : decide (0 < x) = false := decide_eq_false hx0
                  by_cases hq0 : lq = 0
                  · have hfin := stop.out (.inr ⟨by omega, hq0⟩)
                    have HFN := Lib.hid hfin
                    subst hq0
                    clear hfin HST stop hcv hsz hap
                    go_wp2_with fail
                    go_roundg Q
                    case measure => exact HQX.out
                    case rel => exact ⟨Q, lo2, A5, c5, rfl, by rw [← HLQ.out], rfl, HC5.out, by rw [← HLQ.out]; omega, Lib.hid ⟨HA5.out.below HB6.out, HFN.out⟩, HB5.out.trans (HB6.out.mono hz5)⟩
                  · have j11 : (0 : Int) < (lq : Int) := by omega
                    have j12 : 0 < lq := by omega
                    have hfin := HST.out hk9 (.inr (by omega))
                    have HFN := Lib.hid hfin
                    clear hfin HST stop
                    go_wp2_with fail
                    go_roundw
                    case rel => exact ⟨k + 1, x / 10, lo2 ++ [dv], by omega, by omega, by omega, by go_num, by go_num, by first | rfl | (rw [hap]; done) | (rw [List.reverse_append]; rfl), by have h5 := HFN.out.2; rw [List.length_append]; exact h5, Lib.hid ⟨HFN.out.1.2, HFN.out.1.1⟩, by have hb := HB6.out; ((with_reducible (repeat (first | exact bR _ _ | refine bS ?_ ?_ _ | refine bA ?_ ?_ _ | refine bD ?_ | refine bT ?_ (by assumption) ?_ | refine bO (by assumption) ?_ ?_))) <;> (first | omega | (simp; done) | (simp <;> omega)))⟩
                    case measure => simp [intOf]; omega
              · have j7 : ¬ (k : Int) < 9 := by omega
                have j8 : decide ((k : Int) < 9) = false := decide_eq_false j7
                have hfin := stop.out (.inl (by omega))
                have HFN := Lib.hid hfin
                clear hfin HST stop hcv hsz hap
                go_wp2_with fail
                go_roundg Q
                case measure => exact HQX.out
                case rel => exact ⟨Q, lo2, A5, c5, rfl, by rw [← HLQ.out], rfl, HC5.out, by rw [← HLQ.out]; omega, Lib.hid ⟨HA5.out.below HB6.out, HFN.out⟩, HB5.out.trans (HB6.out.mono hz5)⟩
          · have hr1 : canN R = [(R : Int)] := canN_one hR0 (by omega)
            rw [hr1] at hA6 hc6 ⊢
            obtain ⟨g6, o6, rfl, hg6, hc60⟩ := hA6 0 _ rfl
            rw [Nat.add_zero] at hc60
            have j6 : (1 : Int) ≤ (c6 : Int) := by simp at hc6; omega
            clear hA6 hc6 goal
            simp only [List.length_cons, List.length_nil]
            go_wp2_with fail
            obtain ⟨lq, hlq⟩ : ∃ q, q = (canN Q).length := ⟨_, rfl⟩
            rw [← hlq]
            have HLQ := Lib.hid hlq
            rw [← hlq] at hQl
            clear hlq
            go_loopw [5, 8, 9] (fun vs vx vk ws => ∃ (k : Nat) (x : Int) (lo2 : List Int), k ≤ 9 ∧ 0 ≤ x ∧ x < 1000000000 ∧ vk = .int .i64 k ∧ vx = .int .u32 x ∧ vs = .string (strOf lo2.reverse) ∧ lo2.length ≤ 1000000 ∧ Hid (x.toNat < 10 ^ (9 - k) ∧ digR Z = lo2 ++ digR (Q * 10 ^ (9 - k) + x.toNat)) ∧ Below w5.heap.size w5 ws) (fun _ _ vk _ => 9 - (intOf vk).toNat)
            case atStart => exact ⟨0, R, lo, by omega, by omega, by omega, rfl, rfl, rfl, hlo, Lib.hid ⟨by omega, by rw [HR.out.2]; exact congrArg (lo ++ digR ·) HXQ.out⟩, Below.refl _ _⟩
            case round =>
              obtain ⟨k, x, lo2, hk, x0, x1, rfl, rfl, rfl, hlo2, HD, hbel⟩ := hrel
              have HB6 := Lib.hid hbel
              have hz6 := hbel.size
              have k0 : (0 : Int) ≤ (k : Int) := by omega
              clear hbel
              obtain ⟨dv, hdv⟩ : ∃ dv : Int, dv = 48 + x % 10 := ⟨_, rfl⟩
              have hdv2 : 48 + x % 10 = dv := hdv.symm
              have d0 : 0 ≤ dv := by omega
              have d1 : dv < 58 := by omega
              have hdvN : dv = ((48 + x.toNat % 10 : Nat) : Int) := by omega
              have hxd : (x / 10).toNat = x.toNat / 10 := by omega
              have HST : Hid (k < 9 → (0 < x ∨ 0 < lq) → (digR Z = (lo2 ++ [dv]) ++ digR (Q * 10 ^ (9 - (k + 1)) + (x / 10).toNat) ∧ (x / 10).toNat < 10 ^ (9 - (k + 1))) ∧ lo2.length + 1 ≤ 1000000) := Lib.hid (fun hk9 hxq => by
                obtain ⟨m, hm⟩ : ∃ m, 9 - k = m + 1 := ⟨8 - k, by omega⟩
                have hm2 : 9 - (k + 1) = m := by omega
                obtain ⟨h0, h1⟩ := HD.out
                rw [hm] at h0 h1
                have hpos : 0 < Q * 10 ^ (m + 1) + x.toNat := by
                  rcases hxq with h | h
                  · omega
                  · have hQ0 : 0 < Q := by
                      rcases Nat.eq_zero_or_pos Q with e | e
                      · rw [HLQ.out, e, canN_zero] at h; simp at h
                      · exact e
                    have := Nat.mul_pos hQ0 (Nat.pow_pos (n := m + 1) (by decide : 0 < 10))
                    omega
                rw [digR_step hpos] at h1
                rw [hm2, hxd]
                have h2 : digR Z = (lo2 ++ [dv]) ++ digR (Q * 10 ^ m + x.toNat / 10) := by rw [h1, List.append_assoc, hdvN]; rfl
                refine ⟨⟨h2, by rw [Nat.pow_succ] at h0; omega⟩, ?_⟩
                have h3 := congrArg List.length h2
                rw [List.length_append, List.length_append] at h3
                simp at h3
                omega)
              have stop : Hid ((k = 9 ∨ (x = 0 ∧ lq = 0)) → digR Z = lo2 ++ digR Q) := Lib.hid (fun h => by
                obtain ⟨h0, h1⟩ := HD.out
                rcases h with h | ⟨h, h'⟩
                · subst h
                  have hxl : x.toNat = 0 := by simpa using h0
                  rw [hxl] at h1
                  simpa using h1
                · have hq0 := canN_len0.1 (HLQ.out.symm.trans h')
                  rw [h, hq0, Nat.zero_mul, show (0 : Int).toNat = 0 from rfl, Nat.add_zero] at h1
                  rw [hq0]; exact h1)
              have hsz : ¬ (strOf [dv]).size + (strOf lo2.reverse).size > 9223372036854775807 := by
                rw [strOf_size, strOf_size, List.length_reverse]; show ¬ 1 + _ > _; omega
              have hap := strOf_snoc lo2 dv
              clear hdv hdvN hxd HD
              have hcv := run_bytes_string (wr.alloc (.cells #[.int .u8 dv] 5)) wr.heap.size 1 1 [dv] (by intro y hy; simp at hy; omega) rfl (by intro j y hy; rcases j with _ | j <;> simp at hy; subst hy; clear hap hsz hdv2; go_simp)
              by_cases hk9 : k < 9
              · have j7 : (k : Int) < 9 := by omega
                have j8 : decide ((k : Int) < 9) = true := decide_eq_true j7
                by_cases hx0 : 0 < x
                · have j10 : decide (0 < x) = true := decide_eq_true hx0
                  have hfin := HST.out hk9 (.inl hx0)
                  have HFN := Lib.hid hfin
                  clear hfin HST stop
                  go_wp2_with fail
                  go_roundw
                  case rel => exact ⟨k + 1, x / 10, lo2 ++ [dv], by omega, by omega, by omega, by go_num, by go_num, by first | rfl | (rw [hap]; done) | (rw [List.reverse_append]; rfl), by have h5 := HFN.out.2; rw [List.length_append]; exact h5, Lib.hid ⟨HFN.out.1.2, HFN.out.1.1⟩, by have hb := HB6.out; ((with_reducible (repeat (first | exact bR _ _ | refine bS ?_ ?_ _ | refine bA ?_ ?_ _ | refine bD ?_ | refine bT ?_ (by assumption) ?_ | refine bO (by assumption) ?_ ?_))) <;> (first | omega | (simp; done) | (simp <;> omega)))⟩
                  case measure => simp [intOf]; omega
                · have j10 : decide (0 < x) = false := decide_eq_false hx0
                  by_cases hq0 : lq = 0
                  · have hfin := stop.out (.inr ⟨by omega, hq0⟩)
                    have HFN := Lib.hid hfin
                    subst hq0
                    clear hfin HST stop hcv hsz hap
                    go_wp2_with fail
                    go_roundg Q
                    case measure => exact HQX.out
                    case rel => exact ⟨Q, lo2, A5, c5, rfl, by rw [← HLQ.out], rfl, HC5.out, by rw [← HLQ.out]; omega, Lib.hid ⟨HA5.out.below HB6.out, HFN.out⟩, HB5.out.trans (HB6.out.mono hz5)⟩
                  · have j11 : (0 : Int) < (lq : Int) := by omega
                    have j12 : 0 < lq := by omega
                    have hfin := HST.out hk9 (.inr (by omega))
                    have HFN := Lib.hid hfin
                    clear hfin HST stop
                    go_wp2_with fail
                    go_roundw
                    case rel => exact ⟨k + 1, x / 10, lo2 ++ [dv], by omega, by omega, by omega, by go_num, by go_num, by first | rfl | (rw [hap]; done) | (rw [List.reverse_append]; rfl), by have h5 := HFN.out.2; rw [List.length_append]; exact h5, Lib.hid ⟨HFN.out.1.2, HFN.out.1.1⟩, by have hb := HB6.out; ((with_reducible (repeat (first | exact bR _ _ | refine bS ?_ ?_ _ | refine bA ?_ ?_ _ | refine bD ?_ | refine bT ?_ (by assumption) ?_ | refine bO (by assumption) ?_ ?_))) <;> (first | omega | (simp; done) | (simp <;> omega)))⟩
                    case measure => simp [intOf]; omega
              · have j7 : ¬ (k : Int) < 9 := by omega
                have j8 : decide ((k : Int) < 9) = false := decide_eq_false j7
                have hfin := stop.out (.inl (by omega))
                have HFN := Lib.hid hfin
                clear hfin HST stop hcv hsz hap
                go_wp2_with fail
                go_roundg Q
                case measure => exact HQX.out
                case rel => exact ⟨Q, lo2, A5, c5, rfl, by rw [← HLQ.out], rfl, HC5.out, by rw [← HLQ.out]; omega, Lib.hid ⟨HA5.out.below HB6.out, HFN.out⟩, HB5.out.trans (HB6.out.mono hz5)⟩
  · have HE := Lib.hid (show textE a = (⟨#[]⟩, 2) by unfold textE; rw [← hq]; rfl)
    rw [HE.out]
    clear hq HE
    go_enter Try.func15, Try.ntmps15; (try simp only [List.append_eq, List.cons_append, List.nil_append])
    go_wp2_with fail
    -- own blocks: w.heap.size:2
    (go_at_call 50; refine (HLG.out _ (by ((with_reducible (repeat (first | exact bR _ _ | refine bS ?_ ?_ _ | refine bA ?_ ?_ _ | refine bD ?_ | refine bT ?_ (by assumption) ?_ | refine bO (by assumption) ?_ ?_))) <;> (first | omega | (simp; done) | (simp <;> omega))))).mono ?_; rintro e w1 ⟨rfl, hb_w1⟩; have hz_w1 := hb_w1.size; (try simp at hz_w1); (with_reducible apply cel2 (b := w.heap.size) hb_w1); (focus ((try simp) <;> omega)); (focus omega); (focus (go_simp; try exact rfl)); (focus (go_simp; try exact rfl)); (focus (intro o; go_simp)); intro cc cc fz hl)
    have HB1 := Lib.hid (show Below w.heap.size w w1 by ((with_reducible (repeat (first | exact bR _ _ | refine bS ?_ ?_ _ | refine bA ?_ ?_ _ | refine bD ?_ | refine bT ?_ (by assumption) ?_ | refine bO (by assumption) ?_ ?_))) <;> (first | omega | (simp; done) | (simp <;> omega))))
    clear hb_w1
    go_wp2_with fail
    go_ret2
    exact ⟨rfl, HB1.out⟩
end Go.Proofs.Ytadkcipjcmkoiaa
