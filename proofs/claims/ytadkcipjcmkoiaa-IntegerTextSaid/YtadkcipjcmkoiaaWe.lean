/- The contract of wide.Mul. -/
import Derived.Test.YtadkcipjcmkoiaaWd
namespace Go.Proofs.Ytadkcipjcmkoiaa
open Go Go.RowKit
set_option linter.unusedVariables false
theorem canN_ne0 {x : Nat} (h : x ≠ 0) : (((canN x).length : Int) == 0) = false := by
  rw [beq_eq_false_iff_ne]
  intro e
  exact h (canN_len0.1 (by omega))
set_option maxRecDepth 100000 in
set_option maxHeartbeats 4000000 in
theorem wmul_zero (n : Nat) (u v : Value) (a b : Int) (w : World) (ha : IsZ w u n a) (hb : IsZ w v n b) (hn : n ≤ 400000) (h0 : a = 0 ∨ b = 0) :
    Calls Try.prog 62 #[u, v] w (ZOut 0 w) := by
  have HA := Lib.hid ha
  have HB := Lib.hid hb
  have la := isZ_len ha
  have lb := isZ_len hb
  obtain ⟨p, A, c, l, rfl⟩ := isZ_val ha
  obtain ⟨p', A', c', l', rfl⟩ := isZ_val hb
  have e1 : canN (0 : Int).natAbs = [] := canN_zero
  clear ha hb
  by_cases ha0 : a = 0
  · have b0 : (((canN a.natAbs).length : Int) == 0) = true := by rw [ha0, e1]; rfl
    clear h0 e1 ha0
    go_enter Try.func62, Try.ntmps62; (try simp only [List.append_eq, List.cons_append, List.nil_append])
    go_wp2_with fail
    -- own blocks: w.heap.size:2, w.heap.size + 1:2, w.heap.size + 1 + 1:2
    (go_at_call 77; refine (wlimbs_any n _ a _ (HA.out.below (by ((with_reducible (repeat (first | exact bR _ _ | refine bS ?_ ?_ _ | refine bA ?_ ?_ _ | refine bD ?_ | refine bT ?_ (by assumption) ?_ | refine bO (by assumption) ?_ ?_))) <;> (first | omega | (simp; done) | (simp <;> omega))))) (by omega)).mono ?_; rintro e w1 ⟨hb_w1, A1, c1, rfl, hc1, hA1⟩; have hz_w1 := hb_w1.size; (try simp at hz_w1); (with_reducible apply cel2 (b := w.heap.size) hb_w1); (focus ((try simp) <;> omega)); (focus omega); (focus (go_simp; try exact rfl)); (focus (go_simp; try exact rfl)); (focus (intro o; go_simp)); intro cc cc fz hl; (with_reducible apply cel2 (b := w.heap.size + 1) hb_w1); (focus ((try simp) <;> omega)); (focus omega); (focus (go_simp; try exact rfl)); (focus (go_simp; try exact rfl)); (focus (intro o; go_simp)); intro cc cc fz hl; (with_reducible apply cel2 (b := w.heap.size + 1 + 1) hb_w1); (focus ((try simp) <;> omega)); (focus omega); (focus (go_simp; try exact rfl)); (focus (go_simp; try exact rfl)); (focus (intro o; go_simp)); intro cc cc fz hl)
    have HB1 := Lib.hid (show Below w.heap.size w w1 by ((with_reducible (repeat (first | exact bR _ _ | refine bS ?_ ?_ _ | refine bA ?_ ?_ _ | refine bD ?_ | refine bT ?_ (by assumption) ?_ | refine bO (by assumption) ?_ ?_))) <;> (first | omega | (simp; done) | (simp <;> omega))))
    clear hc1 hA1
    go_wp2_with fail
    (go_at_call 77; refine (wlimbs_any n _ b _ (HB.out.below HB1.out) (by omega)).mono ?_; rintro e w2 ⟨hb_w2, A2, c2, rfl, hc2, hA2⟩; have hz_w2 := hb_w2.size; (try simp at hz_w2); (with_reducible apply cel2 (b := w.heap.size) hb_w2); (focus ((try simp) <;> omega)); (focus omega); (focus (go_simp; try exact rfl)); (focus (go_simp; try exact rfl)); (focus (intro o; go_simp)); intro cc cc fz hl; (with_reducible apply cel2 (b := w.heap.size + 1) hb_w2); (focus ((try simp) <;> omega)); (focus omega); (focus (go_simp; try exact rfl)); (focus (go_simp; try exact rfl)); (focus (intro o; go_simp)); intro cc cc fz hl; (with_reducible apply cel2 (b := w.heap.size + 1 + 1) hb_w2); (focus ((try simp) <;> omega)); (focus omega); (focus (go_simp; try exact rfl)); (focus (go_simp; try exact rfl)); (focus (intro o; go_simp)); intro cc cc fz hl)
    clear hc2 hA2
    go_wp2_with fail
    refine bodyPost_ret (v := .agg #[.bool false, .slice none 0 0]) (by simp only [results, Try.results62]; go_simp) rfl ⟨?_, ?_⟩
    · exact HB1.out.trans (by ((with_reducible (repeat (first | exact bR _ _ | refine bS ?_ ?_ _ | refine bA ?_ ?_ _ | refine bD ?_ | refine bT ?_ (by assumption) ?_ | refine bO (by assumption) ?_ ?_))) <;> (first | omega | (simp; done) | (simp <;> omega))))
    · exact ⟨_, rfl, none, 0, by rw [show canN (0 : Int).natAbs = [] from canN_zero]; rfl, by rw [show canN (0 : Int).natAbs = [] from canN_zero]; exact Nat.le_refl _, by rw [show canN (0 : Int).natAbs = [] from canN_zero]; exact LAt.nil _ _⟩
  · have hb0 : b = 0 := by rcases h0 with h | h; exact absurd h ha0; exact h
    have b0 : (((canN b.natAbs).length : Int) == 0) = true := by rw [hb0, e1]; rfl
    have b1 := canN_ne0 (x := a.natAbs) (by omega)
    clear h0 e1 hb0 ha0
    go_enter Try.func62, Try.ntmps62; (try simp only [List.append_eq, List.cons_append, List.nil_append])
    go_wp2_with fail
    -- own blocks: w.heap.size:2, w.heap.size + 1:2, w.heap.size + 1 + 1:2
    (go_at_call 77; refine (wlimbs_any n _ a _ (HA.out.below (by ((with_reducible (repeat (first | exact bR _ _ | refine bS ?_ ?_ _ | refine bA ?_ ?_ _ | refine bD ?_ | refine bT ?_ (by assumption) ?_ | refine bO (by assumption) ?_ ?_))) <;> (first | omega | (simp; done) | (simp <;> omega))))) (by omega)).mono ?_; rintro e w1 ⟨hb_w1, A1, c1, rfl, hc1, hA1⟩; have hz_w1 := hb_w1.size; (try simp at hz_w1); (with_reducible apply cel2 (b := w.heap.size) hb_w1); (focus ((try simp) <;> omega)); (focus omega); (focus (go_simp; try exact rfl)); (focus (go_simp; try exact rfl)); (focus (intro o; go_simp)); intro cc cc fz hl; (with_reducible apply cel2 (b := w.heap.size + 1) hb_w1); (focus ((try simp) <;> omega)); (focus omega); (focus (go_simp; try exact rfl)); (focus (go_simp; try exact rfl)); (focus (intro o; go_simp)); intro cc cc fz hl; (with_reducible apply cel2 (b := w.heap.size + 1 + 1) hb_w1); (focus ((try simp) <;> omega)); (focus omega); (focus (go_simp; try exact rfl)); (focus (go_simp; try exact rfl)); (focus (intro o; go_simp)); intro cc cc fz hl)
    have HB1 := Lib.hid (show Below w.heap.size w w1 by ((with_reducible (repeat (first | exact bR _ _ | refine bS ?_ ?_ _ | refine bA ?_ ?_ _ | refine bD ?_ | refine bT ?_ (by assumption) ?_ | refine bO (by assumption) ?_ ?_))) <;> (first | omega | (simp; done) | (simp <;> omega))))
    clear hc1 hA1
    go_wp2_with fail
    (go_at_call 77; refine (wlimbs_any n _ b _ (HB.out.below HB1.out) (by omega)).mono ?_; rintro e w2 ⟨hb_w2, A2, c2, rfl, hc2, hA2⟩; have hz_w2 := hb_w2.size; (try simp at hz_w2); (with_reducible apply cel2 (b := w.heap.size) hb_w2); (focus ((try simp) <;> omega)); (focus omega); (focus (go_simp; try exact rfl)); (focus (go_simp; try exact rfl)); (focus (intro o; go_simp)); intro cc cc fz hl; (with_reducible apply cel2 (b := w.heap.size + 1) hb_w2); (focus ((try simp) <;> omega)); (focus omega); (focus (go_simp; try exact rfl)); (focus (go_simp; try exact rfl)); (focus (intro o; go_simp)); intro cc cc fz hl; (with_reducible apply cel2 (b := w.heap.size + 1 + 1) hb_w2); (focus ((try simp) <;> omega)); (focus omega); (focus (go_simp; try exact rfl)); (focus (go_simp; try exact rfl)); (focus (intro o; go_simp)); intro cc cc fz hl)
    clear hc2 hA2
    go_wp2_with fail
    refine bodyPost_ret (v := .agg #[.bool false, .slice none 0 0]) (by simp only [results, Try.results62]; go_simp) rfl ⟨?_, ?_⟩
    · exact HB1.out.trans (by ((with_reducible (repeat (first | exact bR _ _ | refine bS ?_ ?_ _ | refine bA ?_ ?_ _ | refine bD ?_ | refine bT ?_ (by assumption) ?_ | refine bO (by assumption) ?_ ?_))) <;> (first | omega | (simp; done) | (simp <;> omega))))
    · exact ⟨_, rfl, none, 0, by rw [show canN (0 : Int).natAbs = [] from canN_zero]; rfl, by rw [show canN (0 : Int).natAbs = [] from canN_zero]; exact Nat.le_refl _, by rw [show canN (0 : Int).natAbs = [] from canN_zero]; exact LAt.nil _ _⟩
set_option maxRecDepth 100000 in
set_option maxHeartbeats 8000000 in
theorem wmul_pos (n : Nat) (u v : Value) (z1 z2 : Int) (w : World) (hza : IsZ w u n z1) (hzb : IsZ w v n z2) (hnn0 : n ≤ 400000) (ha0 : z1 ≠ 0) (hb0 : z2 ≠ 0) :
    Calls Try.prog 62 #[u, v] w (ZOut (z1 * z2) w) := by
  have HZA := Lib.hid hza
  have HZB := Lib.hid hzb
  have la := isZ_len hza
  have lb := isZ_len hzb
  obtain ⟨p0, A0, c0', l0, rfl⟩ := isZ_val hza
  obtain ⟨p', A', c', l', rfl⟩ := isZ_val hzb
  have b1 := canN_ne0 (x := z1.natAbs) (by omega)
  have b2 := canN_ne0 (x := z2.natAbs) (by omega)
  clear hza hzb
  obtain ⟨a, ha⟩ : ∃ a, a = canN z1.natAbs := ⟨_, rfl⟩
  obtain ⟨b, hb⟩ : ∃ b, b = canN z2.natAbs := ⟨_, rfl⟩
  have hml := fun w' (h : Below w.heap.size w w') => wlimbs_any n _ z1 w' (HZA.out.below h) (by omega)
  have hmr := fun w' (h : Below w.heap.size w w') => wlimbs_any n _ z2 w' (HZB.out.below h) (by omega)
  have HLA := Lib.hid (show Lim a by rw [ha]; exact canN_lim _)
  have HLB := Lib.hid (show Lim b by rw [hb]; exact canN_lim _)
  obtain ⟨sp, hsp⟩ : ∃ sp, sp = decide (z1 < 0) := ⟨_, rfl⟩
  obtain ⟨sq, hsq⟩ : ∃ sq, sq = decide (z2 < 0) := ⟨_, rfl⟩
  have hres : sv (sp != sq) (mv a * mv b) = z1 * z2 := by
    rw [ha, hb, mv_canN, mv_canN, hsp, hsq]
    exact (sv_mul (sv_natAbs z1).1.symm (sv_natAbs z2).1.symm).symm
  unfold LimOut at hml hmr
  rw [← ha, ← hsp] at hml
  rw [← hb, ← hsq] at hmr
  rw [← ha] at la b1
  rw [← hb] at lb b2
  obtain ⟨Z, hZ⟩ : ∃ Z, Z = z1 * z2 := ⟨_, rfl⟩
  rw [← hZ] at hres ⊢
  have HRES := Lib.hid hres
  have HML := Lib.hid hml
  have HMR := Lib.hid hmr
  clear hml hmr hres hZ hsp hsq ha hb HZA HZB
  have hmk := fun w => run_make_row' (P := Try.prog) 22 50 (.int .u32 0) 4 Try.underlying22 limbInfo rfl .i64 .i64 (a.length + b.length) (by omega) (by omega) w
  obtain ⟨n', hnn⟩ : ∃ n, n = a.length + b.length := ⟨_, rfl⟩
  rw [Int.natCast_add] at hmk
  rw [← hnn] at hmk
  have n1 : (n' : Int) ≤ 800000 := by omega
  have HN := Lib.hid hnn
  clear hnn
  go_enter Try.func62, Try.ntmps62; (try simp only [List.append_eq, List.cons_append, List.nil_append])
  go_wp2_with fail
  -- own blocks: w.heap.size:2, w.heap.size + 1:2, w.heap.size + 1 + 1:2
  (go_at_call 77; refine (HML.out _ (by ((with_reducible (repeat (first | exact bR _ _ | refine bS ?_ ?_ _ | refine bA ?_ ?_ _ | refine bD ?_ | refine bT ?_ (by assumption) ?_ | refine bO (by assumption) ?_ ?_))) <;> (first | omega | (simp; done) | (simp <;> omega))))).mono ?_; rintro e w1 ⟨hb_w1, A, c, rfl, hc1, hA1⟩; have hz_w1 := hb_w1.size; (try simp at hz_w1); (with_reducible apply cel2 (b := w.heap.size) hb_w1); (focus ((try simp) <;> omega)); (focus omega); (focus (go_simp; try exact rfl)); (focus (go_simp; try exact rfl)); (focus (intro o; go_simp)); intro cc cc fz hl; (with_reducible apply cel2 (b := w.heap.size + 1) hb_w1); (focus ((try simp) <;> omega)); (focus omega); (focus (go_simp; try exact rfl)); (focus (go_simp; try exact rfl)); (focus (intro o; go_simp)); intro cc cc fz hl; (with_reducible apply cel2 (b := w.heap.size + 1 + 1) hb_w1); (focus ((try simp) <;> omega)); (focus omega); (focus (go_simp; try exact rfl)); (focus (go_simp; try exact rfl)); (focus (intro o; go_simp)); intro cc cc fz hl)
  have HA1 := Lib.hid hA1
  have HB1 := Lib.hid (show Below w.heap.size w w1 by ((with_reducible (repeat (first | exact bR _ _ | refine bS ?_ ?_ _ | refine bA ?_ ?_ _ | refine bD ?_ | refine bT ?_ (by assumption) ?_ | refine bO (by assumption) ?_ ?_))) <;> (first | omega | (simp; done) | (simp <;> omega))))
  clear hc1 hA1
  go_wp2_with fail
  (go_at_call 77; refine (HMR.out _ HB1.out).mono ?_; rintro e w2 ⟨hb_w2, B, c2, rfl, hc2, hA2⟩; have hz_w2 := hb_w2.size; (try simp at hz_w2); (with_reducible apply cel2 (b := w.heap.size) hb_w2); (focus ((try simp) <;> omega)); (focus omega); (focus (go_simp; try exact rfl)); (focus (go_simp; try exact rfl)); (focus (intro o; go_simp)); intro cc cc fz hl; (with_reducible apply cel2 (b := w.heap.size + 1) hb_w2); (focus ((try simp) <;> omega)); (focus omega); (focus (go_simp; try exact rfl)); (focus (go_simp; try exact rfl)); (focus (intro o; go_simp)); intro cc cc fz hl; (with_reducible apply cel2 (b := w.heap.size + 1 + 1) hb_w2); (focus ((try simp) <;> omega)); (focus omega); (focus (go_simp; try exact rfl)); (focus (go_simp; try exact rfl)); (focus (intro o; go_simp)); intro cc cc fz hl)
  have HB := Lib.hid hA2
  have HA := Lib.hid (HA1.out.below hb_w2)
  have HB2 := Lib.hid (HB1.out.trans (hb_w2.mono (by have := HB1.out.size; omega)))
  have hz2 : w.heap.size + 1 + 1 + 1 ≤ w2.heap.size := by omega
  clear hc2 hA2 hb_w1 hb_w2 HA1 HB1 hz_w1 hz_w2
  go_wp2_with fail
  clear hmk
  have hg0 : w2.heap.size < w2.heap.size + 1 := by omega
  go_loopw [10, 11, 12, 13, 14, 15, 43, 48, 49, 50] (fun _ _ _ _ _ _ vi _ _ _ wr => ∃ (p : Nat) (L : List Int), p ≤ a.length ∧ vi = .int .i64 p ∧ RowL wr w2.heap.size L ∧ Hid (L.length = n' ∧ Lim L ∧ mv L = mv (a.take p) * mv b ∧ ∀ j, p + b.length ≤ j → j < n' → L[j]? = some 0) ∧ Below w2.heap.size w2 wr) (fun _ _ _ _ _ _ vi _ _ _ _ => (a.length - (intOf vi).toNat))
  case atStart => exact ⟨0, List.replicate n' 0, by omega, rfl, RowL.made w2 n', Lib.hid ⟨by simp, Lim.replicate n', by rw [mv_replicate]; simp [mv], fun j _ hj => by simp [hj]⟩, (Below.refl _ _).alloc (Nat.le_refl _) _⟩
  case round =>
    obtain ⟨p, L, hp, rfl, hrow, HO, hbel⟩ := hrel
    obtain ⟨wo, rfl⟩ : ∃ wo : World, wo = wr := ⟨_, rfl⟩
    have i1 : (0 : Int) ≤ (p : Int) := by omega
    have i3 : (p : Int) ≤ 1000000 := by omega
    have HBE := Lib.hid hbel
    have HR := Lib.hid hrow
    clear hbel hrow
    by_cases hpa : p < a.length
    · obtain ⟨x, hx⟩ : ∃ x, a[p]? = some x := ⟨a[p], by simp⟩
      obtain ⟨x0, x1⟩ := HLA.out.get hx
      have HX := Lib.hid hx
      have j1 : (p : Int) < (a.length : Int) := by omega
      clear hx
      obtain ⟨ga, oa, rfl, hga, hcga⟩ := HA.out.below HBE.out p x HX.out
      go_wp2_with fail
      clear hcga
      go_loopw [12, 13, 14, 15, 50] (fun vc _ _ _ vk ws => ∃ (k : Nat) (cc : Int) (L' : List Int), k ≤ b.length ∧ vk = .int .i64 k ∧ vc = .int .u64 cc ∧ 0 ≤ cc ∧ cc < 4294967296 ∧ RowL ws w2.heap.size L' ∧ Hid (L'.length = n' ∧ Lim L' ∧ mv L' + PB (p + k) * cc = mv (a.take p) * mv b + PB p * x * mv (b.take k) ∧ ∀ j, p + b.length ≤ j → j < n' → L'[j]? = some 0) ∧ Below w2.heap.size w2 ws) (fun _ _ _ _ vk _ => (b.length - (intOf vk).toNat))
      case atStart => exact ⟨0, 0, L, by omega, rfl, rfl, by omega, by omega, HR.out, Lib.hid ⟨HO.out.1, HO.out.2.1, by rw [HO.out.2.2.1]; simp [mv], HO.out.2.2.2⟩, HBE.out⟩
      case round =>
        obtain ⟨k, cc, L', hk, rfl, rfl, c0, c1, hrow, HO', hbel⟩ := hrel
        have k1 : (0 : Int) ≤ (k : Int) := by omega
        have k2 : (k : Int) ≤ 1000000 := by omega
        have hlt := hrow.lt
        have hfz := hrow.frozen
        have hz := hbel.size
        have HBE2 := Lib.hid hbel
        have HR2 := Lib.hid hrow
        clear hbel hrow
        by_cases hkb : k < b.length
        · obtain ⟨y, hy⟩ : ∃ y, b[k]? = some y := ⟨b[k], by simp⟩
          obtain ⟨gb, ob, rfl, hgb, hc2⟩ := HB.out.below HBE2.out k y hy
          obtain ⟨y0, y1⟩ := HLB.out.get hy
          have hpn : p + k < n' := by have := HN.out; omega
          obtain ⟨z, hzz⟩ : ∃ z, L'[p + k]? = some z := ⟨L'[p + k]'(by have := HO'.out.1; omega), by simp⟩
          obtain ⟨z0, z1⟩ := HO'.out.2.1.get hzz
          have hc3 := HR2.out.cell hzz
          have HY := Lib.hid hy
          have HZ := Lib.hid hzz
          have j2 : (k : Int) < (b.length : Int) := by omega
          have j3 : (0 : Int) ≤ (p : Int) + (k : Int) := by omega
          have j4 : (p : Int) + (k : Int) < (n' : Int) := by omega
          obtain ⟨q1, q2⟩ := mul_lim x0 x1 y0 y1
          have q3 : 0 ≤ x * y + z := by omega
          have q4 : x * y + z < 18446744073709551616 := by omega
          have q5 : 0 ≤ x * y + z + cc := by omega
          have q6 : x * y + z + cc < 18446744073709551616 := by omega
          have HST := Lib.hid (mul_step HO'.out.2.2.1 HZ.out HY.out (s := x * y + z + cc) (by omega))
          clear hy hzz
          go_wp2_with fail
          go_roundw
          case rel =>
            refine ⟨k + 1, (x * y + z + cc) / 4294967296, L'.set (p + k) ((x * y + z + cc) % 4294967296), by omega, by go_num, rfl, by omega, by omega, HR2.out.set _ _, Lib.hid ⟨by rw [List.length_set]; exact HO'.out.1, HO'.out.2.1.set _ (by omega) (by omega), HST.out, fun j h1 h2 => ?_⟩, HBE2.out.setCell (Nat.le_refl _) _⟩
            rw [List.getElem?_set_ne (by omega)]
            exact HO'.out.2.2.2 j h1 h2
          case measure => simp [intOf]; omega
        · obtain rfl : k = b.length := by omega
          have hpn : p + b.length < n' := by have := HN.out; omega
          have hzz := HO'.out.2.2.2 (p + b.length) (Nat.le_refl _) hpn
          have hc3 := HR2.out.cell hzz
          have HZ := Lib.hid hzz
          have j3 : (0 : Int) ≤ (p : Int) + (b.length : Int) := by omega
          have j4 : (p : Int) + (b.length : Int) < (n' : Int) := by omega
          have j5 : ¬ (b.length : Int) < (b.length : Int) := by omega
          clear hzz
          go_wp2_with fail
          go_roundw
          case rel =>
            refine ⟨p + 1, L'.set (p + b.length) cc, by omega, by go_num, HR2.out.set _ _, Lib.hid ⟨by rw [List.length_set]; exact HO'.out.1, HO'.out.2.1.set _ (by omega) (by omega), ?_, fun j h1 h2 => ?_⟩, HBE2.out.setCell (Nat.le_refl _) _⟩
            · have h1 := HO'.out.2.2.1
              rw [List.take_length] at h1
              rw [mv_set HZ.out, mv_take_succ HX.out, Int.add_mul, Int.sub_zero]
              rw [← h1]
            · rw [List.getElem?_set_ne (by omega)]
              exact HO'.out.2.2.2 j (by omega) h2
          case measure => simp [intOf]; omega
    · obtain rfl : p = a.length := by omega
      have HF := Lib.hid (show mv L = mv a * mv b by have := HO.out.2.2.1; rwa [List.take_length] at this)
      have HLL := HO.out.1
      have j5 : ¬ (a.length : Int) < (a.length : Int) := by omega
      have hmk := fun w' (h : LAt w' (some ⟨w2.heap.size, 0, none⟩) L) => wmade_any (sp != sq) (some ⟨w2.heap.size, 0, none⟩) L L.length w' HO.out.2.1 h (Nat.le_refl _) (by omega)
      rw [HF.out, HRES.out, HLL] at hmk
      have HMK := Lib.hid hmk
      have HBR := Lib.hid (HB2.out.trans (HBE.out.mono (by omega)))
      clear hmk HLL
      have hbq := HBE.out
      have hzq := hbq.size
      -- own blocks: w.heap.size:2, w.heap.size + 1:2, w.heap.size + 1 + 1:2
      have hb_wo := HBE.out
      (with_reducible apply cel2 (b := w.heap.size) hb_wo); (focus ((try simp) <;> omega)); (focus omega); (focus (go_simp; try exact rfl)); (focus (go_simp; try exact rfl)); (focus (intro o; go_simp)); intro cc cc fz hl; (with_reducible apply cel2 (b := w.heap.size + 1) hb_wo); (focus ((try simp) <;> omega)); (focus omega); (focus (go_simp; try exact rfl)); (focus (go_simp; try exact rfl)); (focus (intro o; go_simp)); intro cc cc fz hl; (with_reducible apply cel2 (b := w.heap.size + 1 + 1) hb_wo); (focus ((try simp) <;> omega)); (focus omega); (focus (go_simp; try exact rfl)); (focus (go_simp; try exact rfl)); (focus (intro o; go_simp)); intro cc cc fz hl
      clear hb_wo hbq
      go_wp2_with fail
      (go_at_call 76; refine (HMK.out _ HR.out.lat).mono ?_; rintro e w3 ⟨hb_w3, v4, rfl, A4, c4, rfl, hc4, hA4⟩; have hz_w3 := hb_w3.size; (try simp at hz_w3); (with_reducible apply cel2 (b := w.heap.size) hb_w3); (focus ((try simp) <;> omega)); (focus omega); (focus (go_simp; try exact rfl)); (focus (go_simp; try exact rfl)); (focus (intro o; go_simp)); intro cc cc fz hl; (with_reducible apply cel2 (b := w.heap.size + 1) hb_w3); (focus ((try simp) <;> omega)); (focus omega); (focus (go_simp; try exact rfl)); (focus (go_simp; try exact rfl)); (focus (intro o; go_simp)); intro cc cc fz hl; (with_reducible apply cel2 (b := w.heap.size + 1 + 1) hb_w3); (focus ((try simp) <;> omega)); (focus omega); (focus (go_simp; try exact rfl)); (focus (go_simp; try exact rfl)); (focus (intro o; go_simp)); intro cc cc fz hl)
      have HC4 := Lib.hid hc4
      have HA4 := Lib.hid hA4
      clear hA4 hc4
      go_wp2_with fail
      refine bodyPost_ret (v := .agg #[.bool (decide (Z < 0)), .slice A4 (canN Z.natAbs).length c4]) (by simp only [results, Try.results62]; go_simp) rfl ⟨?_, ?_⟩
      · exact HBR.out.trans (by ((with_reducible (repeat (first | exact bR _ _ | refine bS ?_ ?_ _ | refine bA ?_ ?_ _ | refine bD ?_ | refine bT ?_ (by assumption) ?_ | refine bO (by assumption) ?_ ?_))) <;> (first | omega | (simp; done) | (simp <;> omega))))
      · exact ⟨_, rfl, A4, c4, rfl, HC4.out, HA4.out.set2 (by assumption) (by assumption) _ _⟩
theorem wmul_any (n : Nat) (u v : Value) (a b : Int) (w : World) (ha : IsZ w u n a) (hb : IsZ w v n b) (hn : n ≤ 400000) :
    Calls Try.prog 62 #[u, v] w (ZOut (a * b) w) := by
  by_cases h0 : a = 0 ∨ b = 0
  · have e : a * b = 0 := by rcases h0 with h | h <;> subst h <;> simp
    rw [e]
    exact wmul_zero n u v a b w ha hb hn h0
  · exact wmul_pos n u v a b w ha hb hn (fun h => h0 (.inl h)) (fun h => h0 (.inr h))
end Go.Proofs.Ytadkcipjcmkoiaa
