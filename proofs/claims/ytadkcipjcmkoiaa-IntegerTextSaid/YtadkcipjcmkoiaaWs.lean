/- The contract of wide.Shr. -/
import Derived.Test.YtadkcipjcmkoiaaWf
namespace Go.Proofs.Ytadkcipjcmkoiaa
open Go Go.RowKit
set_option linter.unusedVariables false
/-- The limbs without the zeros at the end are the first ones. -/
theorem canN_take_any {l : List Int} (hl : Lim l) : l.take (canN (mv l).toNat).length = canN (mv l).toNat := by
  have key : ∀ n, n ≤ l.length → (∀ k x, l[k]? = some x → n ≤ k → x = 0) → l.take (canN (mv l).toNat).length = canN (mv l).toNat := by
    intro n
    induction n with
    | zero =>
      intro hn hz
      have h := canN_take hl hn hz (fun x h => absurd h (by omega))
      rw [← h]; simp
    | succ n ih =>
      intro hn hz
      obtain ⟨x, hx⟩ : ∃ x, l[n]? = some x := ⟨l[n], by simp⟩
      by_cases h0 : x = 0
      · refine ih (by omega) (fun k y hy hk => ?_)
        rcases Nat.lt_or_ge n k with h | h
        · exact hz k y hy h
        · obtain rfl : k = n := by omega
          rw [hx] at hy
          rw [← Option.some.inj hy]; exact h0
      · have h := canN_take hl hn hz (fun y _ hy => by
          rw [Nat.add_sub_cancel, hx] at hy
          rw [← Option.some.inj hy]; exact h0)
        have hlen : (canN (mv l).toNat).length = n + 1 := by rw [← h, List.length_take]; omega
        rw [hlen]; exact h
  exact key l.length (Nat.le_refl _) (fun k x hx hk => by have := (List.getElem?_eq_some_iff.1 hx).1; omega)
set_option maxRecDepth 100000 in
set_option maxHeartbeats 4000000 in
theorem wshr_any (n0 : Nat) (u : Value) (a : Int) (wd k : Nat) (w : World) (hu : IsZ w u n0 a) (hn : n0 ≤ 400000) (hk : k ≤ 31) (hW : wd ≤ 400000) :
    Calls Try.prog 57 #[u, .int .i64 (32 * (wd : Int) + (k : Int))] w (ZOut (a / (PB wd * 2 ^ k)) w) := by
  have HU := Lib.hid hu
  have ca := isZ_len hu
  obtain ⟨p0, A0, c0', l0, rfl⟩ := isZ_val hu
  have hml := fun w' (h : Below w.heap.size w w') => wlimbs_any n0 _ a w' (HU.out.below h) (by omega)
  have ea := (sv_natAbs a).1.symm
  obtain ⟨p, hp⟩ : ∃ p, p = decide (a < 0) := ⟨_, rfl⟩
  obtain ⟨x, hx⟩ : ∃ x, x = a.natAbs := ⟨_, rfl⟩
  unfold LimOut at hml
  rw [← hx, ← hp] at hml
  rw [← hx] at ca
  rw [← hx, ← hp] at ea
  obtain ⟨P, hP⟩ : ∃ P : Int, P = 2 ^ k := ⟨_, rfl⟩
  rw [← hP]
  obtain ⟨D, hD⟩ : ∃ D, D = PB wd * P := ⟨_, rfl⟩
  rw [← hD]
  obtain ⟨p0, p1⟩ := pow2_bd hk
  rw [← hP] at p0 p1
  obtain ⟨Z, hZ⟩ : ∃ Z, Z = a / D := ⟨_, rfl⟩
  have hDp : 0 < D := by rw [hD]; exact Int.mul_pos (PB_pos _) (by omega)
  have hz : Z = if p = true then (-((x : Int) / D) - (if (x : Int) % D = 0 then 0 else 1)) else (x : Int) / D := by
    rw [hZ, ea]
    unfold sv
    split
    · exact floor_neg hDp
    · rfl
  rw [← hZ]
  obtain ⟨N, hN⟩ : ∃ N : Int, N = 32 * (wd : Int) + (k : Int) := ⟨_, rfl⟩
  rw [← hN]
  have n0 : 0 ≤ N := by omega
  have n1 : N ≤ 100000000 := by omega
  have nq : N / 32 = (wd : Int) := by omega
  have nr : N % 32 = (k : Int) := by omega
  have k0 : (0 : Int) ≤ (k : Int) := by omega
  have k1 : (k : Int) ≤ 31 := by omega
  have w0' : (0 : Int) ≤ (wd : Int) := by omega
  have w1' : (wd : Int) ≤ 400000 := by omega
  have HML := Lib.hid hml
  have HZ := Lib.hid hz
  have HP := Lib.hid hP
  have HD := Lib.hid hD
  clear hml hz hx hZ ea hP hN hD hp hu HU
  go_enter Try.func57, Try.ntmps57; (try simp only [List.append_eq, List.cons_append, List.nil_append])
  go_wp2_with fail
  -- own blocks: w.heap.size:2, w.heap.size + 1:2
  (go_at_call 77; refine (HML.out _ (by ((with_reducible (repeat (first | exact bR _ _ | refine bS ?_ ?_ _ | refine bA ?_ ?_ _ | refine bD ?_ | refine bT ?_ (by assumption) ?_ | refine bO (by assumption) ?_ ?_))) <;> (first | omega | (simp; done) | (simp <;> omega))))).mono ?_; rintro e w1 ⟨hb_w1, A1, c1, rfl, hc1, hA1⟩; have hz_w1 := hb_w1.size; (try simp at hz_w1); (with_reducible apply cel2 (b := w.heap.size) hb_w1); (focus ((try simp) <;> omega)); (focus omega); (focus (go_simp; try exact rfl)); (focus (go_simp; try exact rfl)); (focus (intro o; go_simp)); intro cc cc fz hl; (with_reducible apply cel2 (b := w.heap.size + 1) hb_w1); (focus ((try simp) <;> omega)); (focus omega); (focus (go_simp; try exact rfl)); (focus (go_simp; try exact rfl)); (focus (intro o; go_simp)); intro cc cc fz hl)
  have HB1 := Lib.hid (show Below w.heap.size w w1 by ((with_reducible (repeat (first | exact bR _ _ | refine bS ?_ ?_ _ | refine bA ?_ ?_ _ | refine bD ?_ | refine bT ?_ (by assumption) ?_ | refine bO (by assumption) ?_ ?_))) <;> (first | omega | (simp; done) | (simp <;> omega))))
  have hz1 : w.heap.size + 1 + 1 ≤ w1.heap.size := by omega
  have HA1 := Lib.hid hA1
  have HC1 := Lib.hid hc1
  obtain ⟨m, hm⟩ : ∃ m, m = canN x := ⟨_, rfl⟩
  have HM := Lib.hid hm
  have cx : m.length ≤ 400000 := by rw [hm]; omega
  rw [← hm] at HA1 HC1 ⊢
  clear hb_w1 hA1 hc1 hm hz_w1
  have HLM := Lib.hid (show Lim m by rw [HM.out]; exact canN_lim _)
  go_wp2_with fail
  (try rw [nq])
  clear nq nr
  go_loop [9, 10] (fun vl vi => ∃ (i : Nat) (lb : Bool), i ≤ m.length ∧ i ≤ wd ∧ vi = .int .i64 i ∧ vl = .bool lb ∧ Hid (lb = decide (mv (m.take i) ≠ 0))) (fun _ vi => (m.length - (intOf vi).toNat))
  case atStart => exact ⟨0, false, by omega, by omega, rfl, rfl, Lib.hid rfl⟩
  case round =>
    obtain ⟨i, lb, hi, hi2, rfl, rfl, HLB⟩ := hrel
    have i1 : (0 : Int) ≤ (i : Int) := by omega
    have i3 : (i : Int) ≤ 400000 := by omega
    by_cases hil : i < m.length ∧ i < wd
    · obtain ⟨hil, hiw⟩ := hil
      obtain ⟨y, hy⟩ : ∃ y, m[i]? = some y := ⟨m[i], by simp⟩
      obtain ⟨g, o, rfl, hg, hcell⟩ := HA1.out i y hy
      obtain ⟨y0, y1⟩ := HLM.out.get hy
      have j1 : (i : Int) < (m.length : Int) := by omega
      have j2 : (i : Int) < (wd : Int) := by omega
      have HST := Lib.hid (show decide (mv (m.take (i + 1)) ≠ 0) = (lb || (y != 0)) by
        have h1 := mv_take_succ hy
        have h2 := mv_nonneg (HLM.out.take i)
        have q := PB_pos i
        have h3 : 0 ≤ PB i * y := Int.mul_nonneg (by omega) y0
        rw [HLB.out, Bool.eq_iff_iff]
        simp only [decide_eq_true_eq, Bool.or_eq_true, bne_iff_ne]
        by_cases hy0 : y = 0
        · subst hy0; rw [h1]; simp
        · have : PB i * y ≠ 0 := fun e => by rcases Int.mul_eq_zero.1 e with h | h <;> omega
          constructor
          · intro _; exact .inr hy0
          · intro _; omega)
      clear hy
      cases lb
      · go_wp2_with fail
        go_round
        case rel => exact ⟨i + 1, (y != 0), by omega, by omega, by go_num, rfl, Lib.hid (by rw [HST.out]; rfl)⟩
        case measure => simp [intOf]; omega
      · go_wp2_with fail
        go_round
        case rel => exact ⟨i + 1, true, by omega, by omega, by go_num, rfl, Lib.hid (by rw [HST.out]; rfl)⟩
        case measure => simp [intOf]; omega
    · have HLO := Lib.hid (show lb = decide (mv (m.take wd) ≠ 0) by
        rcases Nat.lt_or_ge i m.length with h | h
        · have : i = wd := by omega
          rw [← this]; exact HLB.out
        · have h1 := HLB.out
          rw [List.take_of_length_le (by omega)] at h1
          rw [List.take_of_length_le (by omega)]
          exact h1)
      rcases Nat.lt_or_ge i m.length with hl1 | hl1
      · have j1 : (i : Int) < (m.length : Int) := by omega
        have j2 : ¬ (i : Int) < (wd : Int) := by omega
        have hwl : wd < m.length := by omega
        go_wp2_with fail
        clear hil HLB
        go_loopw [11, 12, 13] (fun v vi _ wr => ∃ (ii j : Nat) (out : List Int), (ii ≤ m.length ∨ j = 0) ∧ ii ≤ 800000 ∧ j ≤ 400000 ∧ vi = .int .i64 ii ∧ OwnL wr w1.heap.size v out ∧ Hid (ii = wd + j ∧ out.length = j ∧ Lim out ∧ mv out + PB j * (mv (m.drop ii) / P) = (x : Int) / D) ∧ Below w1.heap.size w1 wr) (fun _ vi _ _ => (m.length - (intOf vi).toNat))
        case atStart => exact ⟨wd, 0, [], .inr rfl, by omega, by omega, rfl, OwnL.nil _ _, Lib.hid ⟨by omega, rfl, Lim.nil, by
          have h := down_quo p0 HD.out HLM.out
          rw [HM.out, mv_canN] at h
          rw [h, HM.out]; simp [mv, PB_zero]⟩, Below.refl _ _⟩
        case round =>
          obtain ⟨ii, j, out, hij, hi8, hj4, rfl, hown, HO, hbel⟩ := hrel
          have HBE := Lib.hid hbel
          have HOW := Lib.hid hown
          have hsz := hbel.size
          have hla : LAt wr A1 m := HA1.out.below hbel
          have HLA := Lib.hid hla
          clear hbel hown hla
          have i1 : (0 : Int) ≤ (ii : Int) := by omega
          have i3 : (ii : Int) ≤ 800000 := by omega
          by_cases hil : ii < m.length
          · obtain ⟨y, hy⟩ : ∃ y, m[ii]? = some y := ⟨m[ii], by simp⟩
            obtain ⟨g, o, rfl, hg, hcell⟩ := HLA.out ii y hy
            obtain ⟨y0, y1⟩ := HLM.out.get hy
            have j1 : (ii : Int) < (m.length : Int) := by omega
            have HY := Lib.hid hy
            have hol : out.length ≤ 400000 := by have := HO.out.2.1; omega
            have hmin : min k 64 = k := by omega
            have hpk := HP.out.symm
            clear hy
            by_cases hil2 : ii + 1 < m.length
            · obtain ⟨y2, hy2⟩ : ∃ y2, m[ii + 1]? = some y2 := ⟨m[ii + 1], by simp⟩
              obtain ⟨g', o', he, hg', hcell2⟩ := HLA.out (ii + 1) y2 hy2
              simp only [Option.some.injEq, Addr.mk.injEq] at he
              obtain ⟨rfl, rfl, _⟩ := he
              obtain ⟨z0, z1⟩ := HLM.out.get hy2
              have j2 : (ii : Int) + 1 < (m.length : Int) := by omega
              have HST := Lib.hid (down_step hk HP.out HLM.out HO.out.2.1 HO.out.2.2.2 HY.out (getD_some hy2))
              obtain ⟨q1, q2, q3, q4⟩ := down_word hk HP.out y0 y1 z0 z1
              obtain ⟨S, hS⟩ : ∃ S, S = y + 4294967296 * y2 := ⟨_, rfl⟩
              rw [← hS] at q2 q3 q4
              have hSS := HST.out
              rw [← hS] at hSS
              have HST := Lib.hid hSS
              clear hS hy2 hSS
              have q5 : 0 ≤ S / P := Int.ediv_nonneg q3 (by omega)
              have q6 : S / P ≤ S := Int.ediv_le_self _ q3
              go_wp2_with (at_builtin; go_must (refine wpList_append_limbs rfl _ _ rfl w1.heap.size _ out rfl (HOW.out.alloc _) (some ⟨wr.heap.size, 0, none⟩) 1 [S / P % 4294967296] rfl (lat_one (by simp) (by go_simp)) (by simp; omega) (by simp; omega) ?_))
              intro v1 w5 hown1 hg1
              have HB5 := Lib.hid ((HBE.out.alloc (by omega) _).grown hg1 (by simp; omega) HOW.out.fresh)
              have HO1 := Lib.hid hown1
              clear hg1 hown1 hmin hpk
              go_wp2_with fail
              go_roundw
              case rel => exact ⟨ii + 1, j + 1, out ++ [S / P % 4294967296], .inl (by omega), by omega, by have := HO.out.1; omega, by go_num, HO1.out, Lib.hid ⟨by have := HO.out.1; omega, by rw [List.length_append, HO.out.2.1]; rfl, HO.out.2.2.1.snoc (by omega) (by omega), HST.out⟩, HB5.out⟩
              case measure => simp [intOf]; omega
            · have j2 : ¬ (ii : Int) + 1 < (m.length : Int) := by omega
              have hST := down_step hk HP.out HLM.out HO.out.2.1 HO.out.2.2.2 HY.out (getD_none (by omega))
              rw [Int.mul_zero, Int.add_zero] at hST
              have HST := Lib.hid hST
              clear hST
              have q5 : 0 ≤ y / P := Int.ediv_nonneg y0 (by omega)
              have q6 : y / P ≤ y := Int.ediv_le_self _ y0
              have q7 : y / P % 4294967296 = y / P := by omega
              have hST := HST.out
              rw [q7] at hST
              have HST := Lib.hid hST
              clear q7 hST
              go_wp2_with (at_builtin; go_must (refine wpList_append_limbs rfl _ _ rfl w1.heap.size _ out rfl (HOW.out.alloc _) (some ⟨wr.heap.size, 0, none⟩) 1 [y / P] rfl (lat_one (by simp) (by go_simp)) (by simp; omega) (by simp; omega) ?_))
              intro v1 w5 hown1 hg1
              have HB5 := Lib.hid ((HBE.out.alloc (by omega) _).grown hg1 (by simp; omega) HOW.out.fresh)
              have HO1 := Lib.hid hown1
              clear hg1 hown1 hmin hpk
              go_wp2_with fail
              go_roundw
              case rel => exact ⟨ii + 1, j + 1, out ++ [y / P], .inl (by omega), by omega, by have := HO.out.1; omega, by go_num, HO1.out, Lib.hid ⟨by have := HO.out.1; omega, by rw [List.length_append, HO.out.2.1]; rfl, HO.out.2.2.1.snoc (by omega) (by omega), HST.out⟩, HB5.out⟩
              case measure => simp [intOf]; omega
          · have j1 : ¬ (ii : Int) < (m.length : Int) := by omega
            have HF := Lib.hid (show mv out = (x : Int) / D by
              have h := HO.out.2.2.2
              rw [List.drop_of_length_le (by omega)] at h
              have : mv ([] : List Int) / P = 0 := Int.zero_ediv _
              rw [this] at h
              omega)
            -- own blocks: w.heap.size:2, w.heap.size + 1:2
            obtain ⟨A5, c5, rfl, hc5, _, hA5⟩ := lat_of_own HOW.out
            have HC5 := Lib.hid hc5
            have HLO5 := Lib.hid hA5
            have hol : out.length ≤ 400000 := by have := HO.out.2.1; omega
            have hb_wr := HBE.out
            (with_reducible apply cel2 (b := w.heap.size) hb_wr); (focus ((try simp) <;> omega)); (focus omega); (focus (go_simp; try exact rfl)); (focus (go_simp; try exact rfl)); (focus (intro o; go_simp)); intro cc cc fz hl; (with_reducible apply cel2 (b := w.heap.size + 1) hb_wr); (focus ((try simp) <;> omega)); (focus omega); (focus (go_simp; try exact rfl)); (focus (go_simp; try exact rfl)); (focus (intro o; go_simp)); intro cc cc fz hl
            have HBW := Lib.hid (HB1.out.trans (hb_wr.mono (by omega)))
            clear hb_wr hc5 hA5
            obtain ⟨z, hzz⟩ : ∃ z, m[wd]? = some z := ⟨m[wd]'(by omega), by simp⟩
            obtain ⟨g, o, rfl, hg, hcell⟩ := HLA.out wd z hzz
            obtain ⟨z0, z1⟩ := HLM.out.get hzz
            have j3 : (wd : Int) < (m.length : Int) := by omega
            have hmin : min k 64 = k := by omega
            have hpk := HP.out.symm
            have HLI := Lib.hid (lost_iff hk HP.out HD.out HLM.out (by omega) hzz)
            obtain ⟨lf, hlf⟩ : ∃ lf, lf = (bits BinOp.and IntKind.u32 z (P - 1) != 0) := ⟨_, rfl⟩
            have HLF0 := Lib.hid (show (lb || lf) = decide ((x : Int) % D ≠ 0) by
              have h1 : bits .and .u32 z (P - 1) = z % P := by
                rw [HP.out]
                exact bits_mask .u32 32 (by decide) (fun n h₀ h₁ => by rw [IntKind.wrap_u32]; omega) k (by omega) z z0 (by omega)
              have h2 := HLI.out
              rw [HM.out, mv_canN, ← HM.out] at h2
              have h3 := HLO.out
              rw [hlf, h1, h3, Bool.eq_iff_iff]
              simp only [bne_iff_ne, decide_eq_true_eq, Bool.or_eq_true]
              constructor
              · rintro (g | g) e
                · exact g (h2.1 e).1
                · exact g (h2.1 e).2
              · intro g
                by_cases h4 : mv (m.take wd) = 0
                · exact .inr (fun e => g (h2.2 ⟨h4, e⟩))
                · exact .inl h4)
            replace hlf := hlf.symm
            clear hzz
            cases lf
            · cases lb
              · have HLF := Lib.hid (show false = decide ((x : Int) % D ≠ 0) from HLF0.out)
                cases p
                · have HZE := Lib.hid (show sv false (mv out) = Z by
                    have hz := HZ.out
                    rw [HF.out, hz]
                    simp only [reduceIte, Bool.false_eq_true]
                    rfl)
                  have hmk := fun w' (h : LAt w' A5 out) => wmade_any false A5 out c5 w' HO.out.2.2.1 h HC5.out (by omega)
                  rw [HZE.out] at hmk
                  have HMK := Lib.hid hmk
                  clear hmk
                  go_wp2_with fail
                  (go_at_call 76; refine (HMK.out _ HLO5.out).mono ?_; rintro e w5 ⟨hb_w5, v5, rfl, A6, c6, rfl, hc6, hA6⟩; have hz_w5 := hb_w5.size; (try simp at hz_w5); (with_reducible apply cel2 (b := w.heap.size) hb_w5); (focus ((try simp) <;> omega)); (focus omega); (focus (go_simp; try exact rfl)); (focus (go_simp; try exact rfl)); (focus (intro o; go_simp)); intro cc cc fz hl; (with_reducible apply cel2 (b := w.heap.size + 1) hb_w5); (focus ((try simp) <;> omega)); (focus omega); (focus (go_simp; try exact rfl)); (focus (go_simp; try exact rfl)); (focus (intro o; go_simp)); intro cc cc fz hl)
                  have HC6 := Lib.hid hc6
                  have HA6 := Lib.hid hA6
                  clear hc6 hA6
                  go_wp2_with fail
                  refine bodyPost_ret (v := .agg #[.bool (decide (Z < 0)), .slice A6 (canN Z.natAbs).length c6]) (by simp only [results, Try.results57]; go_simp) rfl ⟨?_, ?_⟩
                  · exact HBW.out.trans (by ((with_reducible (repeat (first | exact bR _ _ | refine bS ?_ ?_ _ | refine bA ?_ ?_ _ | refine bD ?_ | refine bT ?_ (by assumption) ?_ | refine bO (by assumption) ?_ ?_))) <;> (first | omega | (simp; done) | (simp <;> omega))))
                  · exact ⟨_, rfl, A6, c6, rfl, HC6.out, HA6.out.set2 (by assumption) (by assumption) _ _⟩
                · have HZE := Lib.hid (show sv true (mv out) = Z by
                    have hz := HZ.out
                    rw [HF.out, hz]
                    have h := HLF.out
                    simp only [reduceIte]
                    rw [if_pos (by simpa using h)]
                    unfold sv
                    rw [if_pos rfl]
                    omega)
                  have hmk := fun w' (h : LAt w' A5 out) => wmade_any true A5 out c5 w' HO.out.2.2.1 h HC5.out (by omega)
                  rw [HZE.out] at hmk
                  have HMK := Lib.hid hmk
                  clear hmk
                  go_wp2_with fail
                  (go_at_call 76; refine (HMK.out _ HLO5.out).mono ?_; rintro e w5 ⟨hb_w5, v5, rfl, A6, c6, rfl, hc6, hA6⟩; have hz_w5 := hb_w5.size; (try simp at hz_w5); (with_reducible apply cel2 (b := w.heap.size) hb_w5); (focus ((try simp) <;> omega)); (focus omega); (focus (go_simp; try exact rfl)); (focus (go_simp; try exact rfl)); (focus (intro o; go_simp)); intro cc cc fz hl; (with_reducible apply cel2 (b := w.heap.size + 1) hb_w5); (focus ((try simp) <;> omega)); (focus omega); (focus (go_simp; try exact rfl)); (focus (go_simp; try exact rfl)); (focus (intro o; go_simp)); intro cc cc fz hl)
                  have HC6 := Lib.hid hc6
                  have HA6 := Lib.hid hA6
                  clear hc6 hA6
                  go_wp2_with fail
                  refine bodyPost_ret (v := .agg #[.bool (decide (Z < 0)), .slice A6 (canN Z.natAbs).length c6]) (by simp only [results, Try.results57]; go_simp) rfl ⟨?_, ?_⟩
                  · exact HBW.out.trans (by ((with_reducible (repeat (first | exact bR _ _ | refine bS ?_ ?_ _ | refine bA ?_ ?_ _ | refine bD ?_ | refine bT ?_ (by assumption) ?_ | refine bO (by assumption) ?_ ?_))) <;> (first | omega | (simp; done) | (simp <;> omega))))
                  · exact ⟨_, rfl, A6, c6, rfl, HC6.out, HA6.out.set2 (by assumption) (by assumption) _ _⟩
              · have HLF := Lib.hid (show true = decide ((x : Int) % D ≠ 0) from HLF0.out)
                cases p
                · have HZE := Lib.hid (show sv false (mv out) = Z by
                    have hz := HZ.out
                    rw [HF.out, hz]
                    simp only [reduceIte, Bool.false_eq_true]
                    rfl)
                  have hmk := fun w' (h : LAt w' A5 out) => wmade_any false A5 out c5 w' HO.out.2.2.1 h HC5.out (by omega)
                  rw [HZE.out] at hmk
                  have HMK := Lib.hid hmk
                  clear hmk
                  go_wp2_with fail
                  (go_at_call 76; refine (HMK.out _ HLO5.out).mono ?_; rintro e w5 ⟨hb_w5, v5, rfl, A6, c6, rfl, hc6, hA6⟩; have hz_w5 := hb_w5.size; (try simp at hz_w5); (with_reducible apply cel2 (b := w.heap.size) hb_w5); (focus ((try simp) <;> omega)); (focus omega); (focus (go_simp; try exact rfl)); (focus (go_simp; try exact rfl)); (focus (intro o; go_simp)); intro cc cc fz hl; (with_reducible apply cel2 (b := w.heap.size + 1) hb_w5); (focus ((try simp) <;> omega)); (focus omega); (focus (go_simp; try exact rfl)); (focus (go_simp; try exact rfl)); (focus (intro o; go_simp)); intro cc cc fz hl)
                  have HC6 := Lib.hid hc6
                  have HA6 := Lib.hid hA6
                  clear hc6 hA6
                  go_wp2_with fail
                  refine bodyPost_ret (v := .agg #[.bool (decide (Z < 0)), .slice A6 (canN Z.natAbs).length c6]) (by simp only [results, Try.results57]; go_simp) rfl ⟨?_, ?_⟩
                  · exact HBW.out.trans (by ((with_reducible (repeat (first | exact bR _ _ | refine bS ?_ ?_ _ | refine bA ?_ ?_ _ | refine bD ?_ | refine bT ?_ (by assumption) ?_ | refine bO (by assumption) ?_ ?_))) <;> (first | omega | (simp; done) | (simp <;> omega))))
                  · exact ⟨_, rfl, A6, c6, rfl, HC6.out, HA6.out.set2 (by assumption) (by assumption) _ _⟩
                · have HZE := Lib.hid (show sv true ((x : Int) / D + 1) = Z by
                    have h := HLF.out
                    have hz := HZ.out
                    simp only [reduceIte] at hz
                    rw [hz, if_neg (by simpa using h)]
                    unfold sv
                    rw [if_pos rfl]
                    omega)
                  have hm0 := mv_nonneg HO.out.2.2.1
                  have hcl := canN_len_le HO.out.2.2.1
                  have HTR := Lib.hid (fun w' (h : LAt w' A5 out) => wtrimmed_any A5 out c5 w' HO.out.2.2.1 h HC5.out (by omega))
                  have HLT := Lib.hid (show LAt wr A5 (canN (mv out).toNat) by
                    rw [← canN_take_any HO.out.2.2.1]
                    exact HLO5.out.take _)
                  go_wp2_with fail
                  (go_at_call 80; refine (HTR.out _ HLO5.out).mono ?_; rintro e w9 ⟨rfl, rfl⟩)
                  go_wp2_with fail
                  (go_at_call 82; refine (waddl_any A5 (some ⟨wr.heap.size, 0, none⟩) (canN (mv out).toNat) [1] c5 1 _ (canN_lim _) (Lim.cons (by decide) (by decide) Lim.nil) (by omega) (by simp) (HLT.out.alloc _) (lat_one (by simp) (by go_simp))).mono ?_; rintro e w5 ⟨hb_w5, A6, c6, l6, rfl, hc6, hl6, hk6, hm6, hA6⟩; have hz_w5 := hb_w5.size; (try simp at hz_w5); (with_reducible apply cel2 (b := w.heap.size) hb_w5); (focus ((try simp) <;> omega)); (focus omega); (focus (go_simp; try exact rfl)); (focus (go_simp; try exact rfl)); (focus (intro o; go_simp)); intro cc cc fz hl; (with_reducible apply cel2 (b := w.heap.size + 1) hb_w5); (focus ((try simp) <;> omega)); (focus omega); (focus (go_simp; try exact rfl)); (focus (go_simp; try exact rfl)); (focus (intro o; go_simp)); intro cc cc fz hl)
                  have hmk := fun w' (h : LAt w' A6 l6) => wmade_any true A6 l6 c6 w' hl6 h hc6 (by simp at hk6; omega)
                  have he : mv l6 = (x : Int) / D + 1 := by
                    rw [hm6, mv_canN, mv_one, Int.toNat_of_nonneg hm0, HF.out]
                  rw [he, HZE.out] at hmk
                  have HMK := Lib.hid hmk
                  have HA6 := Lib.hid hA6
                  clear hmk he hc6 hl6 hk6 hm6 hA6
                  go_wp2_with fail
                  (go_at_call 76; refine (HMK.out _ HA6.out).mono ?_; rintro e w6 ⟨hb_w6, v6, rfl, A7, c7, rfl, hc7, hA7⟩; have hz_w6 := hb_w6.size; (try simp at hz_w6); (with_reducible apply cel2 (b := w.heap.size) hb_w6); (focus ((try simp) <;> omega)); (focus omega); (focus (go_simp; try exact rfl)); (focus (go_simp; try exact rfl)); (focus (intro o; go_simp)); intro cc cc fz hl; (with_reducible apply cel2 (b := w.heap.size + 1) hb_w6); (focus ((try simp) <;> omega)); (focus omega); (focus (go_simp; try exact rfl)); (focus (go_simp; try exact rfl)); (focus (intro o; go_simp)); intro cc cc fz hl)
                  have HC7 := Lib.hid hc7
                  have HA7 := Lib.hid hA7
                  clear hc7 hA7
                  go_wp2_with fail
                  refine bodyPost_ret (v := .agg #[.bool (decide (Z < 0)), .slice A7 (canN Z.natAbs).length c7]) (by simp only [results, Try.results57]; go_simp) rfl ⟨?_, ?_⟩
                  · exact HBW.out.trans (by ((with_reducible (repeat (first | exact bR _ _ | refine bS ?_ ?_ _ | refine bA ?_ ?_ _ | refine bD ?_ | refine bT ?_ (by assumption) ?_ | refine bO (by assumption) ?_ ?_))) <;> (first | omega | (simp; done) | (simp <;> omega))))
                  · exact ⟨_, rfl, A7, c7, rfl, HC7.out, HA7.out.set2 (by assumption) (by assumption) _ _⟩
            · have HLF := Lib.hid (show true = decide ((x : Int) % D ≠ 0) by rw [← HLF0.out]; simp)
              cases p
              · have HZE := Lib.hid (show sv false (mv out) = Z by
                  have hz := HZ.out
                  rw [HF.out, hz]
                  simp only [reduceIte, Bool.false_eq_true]
                  rfl)
                have hmk := fun w' (h : LAt w' A5 out) => wmade_any false A5 out c5 w' HO.out.2.2.1 h HC5.out (by omega)
                rw [HZE.out] at hmk
                have HMK := Lib.hid hmk
                clear hmk
                go_wp2_with fail
                (go_at_call 76; refine (HMK.out _ HLO5.out).mono ?_; rintro e w5 ⟨hb_w5, v5, rfl, A6, c6, rfl, hc6, hA6⟩; have hz_w5 := hb_w5.size; (try simp at hz_w5); (with_reducible apply cel2 (b := w.heap.size) hb_w5); (focus ((try simp) <;> omega)); (focus omega); (focus (go_simp; try exact rfl)); (focus (go_simp; try exact rfl)); (focus (intro o; go_simp)); intro cc cc fz hl; (with_reducible apply cel2 (b := w.heap.size + 1) hb_w5); (focus ((try simp) <;> omega)); (focus omega); (focus (go_simp; try exact rfl)); (focus (go_simp; try exact rfl)); (focus (intro o; go_simp)); intro cc cc fz hl)
                have HC6 := Lib.hid hc6
                have HA6 := Lib.hid hA6
                clear hc6 hA6
                go_wp2_with fail
                refine bodyPost_ret (v := .agg #[.bool (decide (Z < 0)), .slice A6 (canN Z.natAbs).length c6]) (by simp only [results, Try.results57]; go_simp) rfl ⟨?_, ?_⟩
                · exact HBW.out.trans (by ((with_reducible (repeat (first | exact bR _ _ | refine bS ?_ ?_ _ | refine bA ?_ ?_ _ | refine bD ?_ | refine bT ?_ (by assumption) ?_ | refine bO (by assumption) ?_ ?_))) <;> (first | omega | (simp; done) | (simp <;> omega))))
                · exact ⟨_, rfl, A6, c6, rfl, HC6.out, HA6.out.set2 (by assumption) (by assumption) _ _⟩
              · have HZE := Lib.hid (show sv true ((x : Int) / D + 1) = Z by
                  have h := HLF.out
                  have hz := HZ.out
                  simp only [reduceIte] at hz
                  rw [hz, if_neg (by simpa using h)]
                  unfold sv
                  rw [if_pos rfl]
                  omega)
                have hm0 := mv_nonneg HO.out.2.2.1
                have hcl := canN_len_le HO.out.2.2.1
                have HTR := Lib.hid (fun w' (h : LAt w' A5 out) => wtrimmed_any A5 out c5 w' HO.out.2.2.1 h HC5.out (by omega))
                have HLT := Lib.hid (show LAt wr A5 (canN (mv out).toNat) by
                  rw [← canN_take_any HO.out.2.2.1]
                  exact HLO5.out.take _)
                go_wp2_with fail
                (go_at_call 80; refine (HTR.out _ HLO5.out).mono ?_; rintro e w9 ⟨rfl, rfl⟩)
                go_wp2_with fail
                (go_at_call 82; refine (waddl_any A5 (some ⟨wr.heap.size, 0, none⟩) (canN (mv out).toNat) [1] c5 1 _ (canN_lim _) (Lim.cons (by decide) (by decide) Lim.nil) (by omega) (by simp) (HLT.out.alloc _) (lat_one (by simp) (by go_simp))).mono ?_; rintro e w5 ⟨hb_w5, A6, c6, l6, rfl, hc6, hl6, hk6, hm6, hA6⟩; have hz_w5 := hb_w5.size; (try simp at hz_w5); (with_reducible apply cel2 (b := w.heap.size) hb_w5); (focus ((try simp) <;> omega)); (focus omega); (focus (go_simp; try exact rfl)); (focus (go_simp; try exact rfl)); (focus (intro o; go_simp)); intro cc cc fz hl; (with_reducible apply cel2 (b := w.heap.size + 1) hb_w5); (focus ((try simp) <;> omega)); (focus omega); (focus (go_simp; try exact rfl)); (focus (go_simp; try exact rfl)); (focus (intro o; go_simp)); intro cc cc fz hl)
                have hmk := fun w' (h : LAt w' A6 l6) => wmade_any true A6 l6 c6 w' hl6 h hc6 (by simp at hk6; omega)
                have he : mv l6 = (x : Int) / D + 1 := by
                  rw [hm6, mv_canN, mv_one, Int.toNat_of_nonneg hm0, HF.out]
                rw [he, HZE.out] at hmk
                have HMK := Lib.hid hmk
                have HA6 := Lib.hid hA6
                clear hmk he hc6 hl6 hk6 hm6 hA6
                go_wp2_with fail
                (go_at_call 76; refine (HMK.out _ HA6.out).mono ?_; rintro e w6 ⟨hb_w6, v6, rfl, A7, c7, rfl, hc7, hA7⟩; have hz_w6 := hb_w6.size; (try simp at hz_w6); (with_reducible apply cel2 (b := w.heap.size) hb_w6); (focus ((try simp) <;> omega)); (focus omega); (focus (go_simp; try exact rfl)); (focus (go_simp; try exact rfl)); (focus (intro o; go_simp)); intro cc cc fz hl; (with_reducible apply cel2 (b := w.heap.size + 1) hb_w6); (focus ((try simp) <;> omega)); (focus omega); (focus (go_simp; try exact rfl)); (focus (go_simp; try exact rfl)); (focus (intro o; go_simp)); intro cc cc fz hl)
                have HC7 := Lib.hid hc7
                have HA7 := Lib.hid hA7
                clear hc7 hA7
                go_wp2_with fail
                refine bodyPost_ret (v := .agg #[.bool (decide (Z < 0)), .slice A7 (canN Z.natAbs).length c7]) (by simp only [results, Try.results57]; go_simp) rfl ⟨?_, ?_⟩
                · exact HBW.out.trans (by ((with_reducible (repeat (first | exact bR _ _ | refine bS ?_ ?_ _ | refine bA ?_ ?_ _ | refine bD ?_ | refine bT ?_ (by assumption) ?_ | refine bO (by assumption) ?_ ?_))) <;> (first | omega | (simp; done) | (simp <;> omega))))
                · exact ⟨_, rfl, A7, c7, rfl, HC7.out, HA7.out.set2 (by assumption) (by assumption) _ _⟩
      · have j1 : ¬ (i : Int) < (m.length : Int) := by omega
        have hwl : m.length ≤ wd := by omega
        by_cases j2 : (i : Int) < (wd : Int)
        all_goals
          go_wp2_with fail
          clear hil HLB
          go_loopw [11, 12, 13] (fun v vi _ wr => ∃ (ii j : Nat) (out : List Int), (ii ≤ m.length ∨ j = 0) ∧ ii ≤ 800000 ∧ j ≤ 400000 ∧ vi = .int .i64 ii ∧ OwnL wr w1.heap.size v out ∧ Hid (ii = wd + j ∧ out.length = j ∧ Lim out ∧ mv out + PB j * (mv (m.drop ii) / P) = (x : Int) / D) ∧ Below w1.heap.size w1 wr) (fun _ vi _ _ => (m.length - (intOf vi).toNat))
          case atStart => exact ⟨wd, 0, [], .inr rfl, by omega, by omega, rfl, OwnL.nil _ _, Lib.hid ⟨by omega, rfl, Lim.nil, by
            have h := down_quo p0 HD.out HLM.out
            rw [HM.out, mv_canN] at h
            rw [h, HM.out]; simp [mv, PB_zero]⟩, Below.refl _ _⟩
          case round =>
            obtain ⟨ii, j, out, hij, hi8, hj4, rfl, hown, HO, hbel⟩ := hrel
            have HBE := Lib.hid hbel
            have HOW := Lib.hid hown
            have hsz := hbel.size
            have hla : LAt wr A1 m := HA1.out.below hbel
            have HLA := Lib.hid hla
            clear hbel hown hla
            have i1 : (0 : Int) ≤ (ii : Int) := by omega
            have i3 : (ii : Int) ≤ 800000 := by omega
            by_cases hil : ii < m.length
            · exact absurd hil (by have := HO.out.1; omega)
            · have j1 : ¬ (ii : Int) < (m.length : Int) := by omega
              have HF := Lib.hid (show mv out = (x : Int) / D by
                have h := HO.out.2.2.2
                rw [List.drop_of_length_le (by omega)] at h
                have : mv ([] : List Int) / P = 0 := Int.zero_ediv _
                rw [this] at h
                omega)
              -- own blocks: w.heap.size:2, w.heap.size + 1:2
              obtain ⟨A5, c5, rfl, hc5, _, hA5⟩ := lat_of_own HOW.out
              have HC5 := Lib.hid hc5
              have HLO5 := Lib.hid hA5
              have hol : out.length ≤ 400000 := by have := HO.out.2.1; omega
              have hb_wr := HBE.out
              (with_reducible apply cel2 (b := w.heap.size) hb_wr); (focus ((try simp) <;> omega)); (focus omega); (focus (go_simp; try exact rfl)); (focus (go_simp; try exact rfl)); (focus (intro o; go_simp)); intro cc cc fz hl; (with_reducible apply cel2 (b := w.heap.size + 1) hb_wr); (focus ((try simp) <;> omega)); (focus omega); (focus (go_simp; try exact rfl)); (focus (go_simp; try exact rfl)); (focus (intro o; go_simp)); intro cc cc fz hl
              have HBW := Lib.hid (HB1.out.trans (hb_wr.mono (by omega)))
              clear hb_wr hc5 hA5
              have j3 : ¬ (wd : Int) < (m.length : Int) := by omega
              have HLF := Lib.hid (show lb = decide ((x : Int) % D ≠ 0) by
                have h3 := HLO.out
                rw [List.take_of_length_le (by omega), HM.out, mv_canN] at h3
                rw [h3]
                have h1 : (x : Int) % D = x := by
                  refine Int.emod_eq_of_lt (by omega) ?_
                  have h5 := mv_lt HLM.out
                  rw [HM.out, mv_canN, ← HM.out] at h5
                  have h6 := PB_mono hwl
                  have h7 := Int.mul_le_mul_of_nonneg_left p0 (Int.le_of_lt (PB_pos wd))
                  rw [HD.out]
                  omega
                rw [h1])
              cases lb
              · cases p
                · have HZE := Lib.hid (show sv false (mv out) = Z by
                    have hz := HZ.out
                    rw [HF.out, hz]
                    simp only [reduceIte, Bool.false_eq_true]
                    rfl)
                  have hmk := fun w' (h : LAt w' A5 out) => wmade_any false A5 out c5 w' HO.out.2.2.1 h HC5.out (by omega)
                  rw [HZE.out] at hmk
                  have HMK := Lib.hid hmk
                  clear hmk
                  go_wp2_with fail
                  (go_at_call 76; refine (HMK.out _ HLO5.out).mono ?_; rintro e w5 ⟨hb_w5, v5, rfl, A6, c6, rfl, hc6, hA6⟩; have hz_w5 := hb_w5.size; (try simp at hz_w5); (with_reducible apply cel2 (b := w.heap.size) hb_w5); (focus ((try simp) <;> omega)); (focus omega); (focus (go_simp; try exact rfl)); (focus (go_simp; try exact rfl)); (focus (intro o; go_simp)); intro cc cc fz hl; (with_reducible apply cel2 (b := w.heap.size + 1) hb_w5); (focus ((try simp) <;> omega)); (focus omega); (focus (go_simp; try exact rfl)); (focus (go_simp; try exact rfl)); (focus (intro o; go_simp)); intro cc cc fz hl)
                  have HC6 := Lib.hid hc6
                  have HA6 := Lib.hid hA6
                  clear hc6 hA6
                  go_wp2_with fail
                  refine bodyPost_ret (v := .agg #[.bool (decide (Z < 0)), .slice A6 (canN Z.natAbs).length c6]) (by simp only [results, Try.results57]; go_simp) rfl ⟨?_, ?_⟩
                  · exact HBW.out.trans (by ((with_reducible (repeat (first | exact bR _ _ | refine bS ?_ ?_ _ | refine bA ?_ ?_ _ | refine bD ?_ | refine bT ?_ (by assumption) ?_ | refine bO (by assumption) ?_ ?_))) <;> (first | omega | (simp; done) | (simp <;> omega))))
                  · exact ⟨_, rfl, A6, c6, rfl, HC6.out, HA6.out.set2 (by assumption) (by assumption) _ _⟩
                · have HZE := Lib.hid (show sv true (mv out) = Z by
                    have hz := HZ.out
                    rw [HF.out, hz]
                    have h := HLF.out
                    simp only [reduceIte]
                    rw [if_pos (by simpa using h)]
                    unfold sv
                    rw [if_pos rfl]
                    omega)
                  have hmk := fun w' (h : LAt w' A5 out) => wmade_any true A5 out c5 w' HO.out.2.2.1 h HC5.out (by omega)
                  rw [HZE.out] at hmk
                  have HMK := Lib.hid hmk
                  clear hmk
                  go_wp2_with fail
                  (go_at_call 76; refine (HMK.out _ HLO5.out).mono ?_; rintro e w5 ⟨hb_w5, v5, rfl, A6, c6, rfl, hc6, hA6⟩; have hz_w5 := hb_w5.size; (try simp at hz_w5); (with_reducible apply cel2 (b := w.heap.size) hb_w5); (focus ((try simp) <;> omega)); (focus omega); (focus (go_simp; try exact rfl)); (focus (go_simp; try exact rfl)); (focus (intro o; go_simp)); intro cc cc fz hl; (with_reducible apply cel2 (b := w.heap.size + 1) hb_w5); (focus ((try simp) <;> omega)); (focus omega); (focus (go_simp; try exact rfl)); (focus (go_simp; try exact rfl)); (focus (intro o; go_simp)); intro cc cc fz hl)
                  have HC6 := Lib.hid hc6
                  have HA6 := Lib.hid hA6
                  clear hc6 hA6
                  go_wp2_with fail
                  refine bodyPost_ret (v := .agg #[.bool (decide (Z < 0)), .slice A6 (canN Z.natAbs).length c6]) (by simp only [results, Try.results57]; go_simp) rfl ⟨?_, ?_⟩
                  · exact HBW.out.trans (by ((with_reducible (repeat (first | exact bR _ _ | refine bS ?_ ?_ _ | refine bA ?_ ?_ _ | refine bD ?_ | refine bT ?_ (by assumption) ?_ | refine bO (by assumption) ?_ ?_))) <;> (first | omega | (simp; done) | (simp <;> omega))))
                  · exact ⟨_, rfl, A6, c6, rfl, HC6.out, HA6.out.set2 (by assumption) (by assumption) _ _⟩
              · cases p
                · have HZE := Lib.hid (show sv false (mv out) = Z by
                    have hz := HZ.out
                    rw [HF.out, hz]
                    simp only [reduceIte, Bool.false_eq_true]
                    rfl)
                  have hmk := fun w' (h : LAt w' A5 out) => wmade_any false A5 out c5 w' HO.out.2.2.1 h HC5.out (by omega)
                  rw [HZE.out] at hmk
                  have HMK := Lib.hid hmk
                  clear hmk
                  go_wp2_with fail
                  (go_at_call 76; refine (HMK.out _ HLO5.out).mono ?_; rintro e w5 ⟨hb_w5, v5, rfl, A6, c6, rfl, hc6, hA6⟩; have hz_w5 := hb_w5.size; (try simp at hz_w5); (with_reducible apply cel2 (b := w.heap.size) hb_w5); (focus ((try simp) <;> omega)); (focus omega); (focus (go_simp; try exact rfl)); (focus (go_simp; try exact rfl)); (focus (intro o; go_simp)); intro cc cc fz hl; (with_reducible apply cel2 (b := w.heap.size + 1) hb_w5); (focus ((try simp) <;> omega)); (focus omega); (focus (go_simp; try exact rfl)); (focus (go_simp; try exact rfl)); (focus (intro o; go_simp)); intro cc cc fz hl)
                  have HC6 := Lib.hid hc6
                  have HA6 := Lib.hid hA6
                  clear hc6 hA6
                  go_wp2_with fail
                  refine bodyPost_ret (v := .agg #[.bool (decide (Z < 0)), .slice A6 (canN Z.natAbs).length c6]) (by simp only [results, Try.results57]; go_simp) rfl ⟨?_, ?_⟩
                  · exact HBW.out.trans (by ((with_reducible (repeat (first | exact bR _ _ | refine bS ?_ ?_ _ | refine bA ?_ ?_ _ | refine bD ?_ | refine bT ?_ (by assumption) ?_ | refine bO (by assumption) ?_ ?_))) <;> (first | omega | (simp; done) | (simp <;> omega))))
                  · exact ⟨_, rfl, A6, c6, rfl, HC6.out, HA6.out.set2 (by assumption) (by assumption) _ _⟩
                · have HZE := Lib.hid (show sv true ((x : Int) / D + 1) = Z by
                    have h := HLF.out
                    have hz := HZ.out
                    simp only [reduceIte] at hz
                    rw [hz, if_neg (by simpa using h)]
                    unfold sv
                    rw [if_pos rfl]
                    omega)
                  have hm0 := mv_nonneg HO.out.2.2.1
                  have hcl := canN_len_le HO.out.2.2.1
                  have HTR := Lib.hid (fun w' (h : LAt w' A5 out) => wtrimmed_any A5 out c5 w' HO.out.2.2.1 h HC5.out (by omega))
                  have HLT := Lib.hid (show LAt wr A5 (canN (mv out).toNat) by
                    rw [← canN_take_any HO.out.2.2.1]
                    exact HLO5.out.take _)
                  go_wp2_with fail
                  (go_at_call 80; refine (HTR.out _ HLO5.out).mono ?_; rintro e w9 ⟨rfl, rfl⟩)
                  go_wp2_with fail
                  (go_at_call 82; refine (waddl_any A5 (some ⟨wr.heap.size, 0, none⟩) (canN (mv out).toNat) [1] c5 1 _ (canN_lim _) (Lim.cons (by decide) (by decide) Lim.nil) (by omega) (by simp) (HLT.out.alloc _) (lat_one (by simp) (by go_simp))).mono ?_; rintro e w5 ⟨hb_w5, A6, c6, l6, rfl, hc6, hl6, hk6, hm6, hA6⟩; have hz_w5 := hb_w5.size; (try simp at hz_w5); (with_reducible apply cel2 (b := w.heap.size) hb_w5); (focus ((try simp) <;> omega)); (focus omega); (focus (go_simp; try exact rfl)); (focus (go_simp; try exact rfl)); (focus (intro o; go_simp)); intro cc cc fz hl; (with_reducible apply cel2 (b := w.heap.size + 1) hb_w5); (focus ((try simp) <;> omega)); (focus omega); (focus (go_simp; try exact rfl)); (focus (go_simp; try exact rfl)); (focus (intro o; go_simp)); intro cc cc fz hl)
                  have hmk := fun w' (h : LAt w' A6 l6) => wmade_any true A6 l6 c6 w' hl6 h hc6 (by simp at hk6; omega)
                  have he : mv l6 = (x : Int) / D + 1 := by
                    rw [hm6, mv_canN, mv_one, Int.toNat_of_nonneg hm0, HF.out]
                  rw [he, HZE.out] at hmk
                  have HMK := Lib.hid hmk
                  have HA6 := Lib.hid hA6
                  clear hmk he hc6 hl6 hk6 hm6 hA6
                  go_wp2_with fail
                  (go_at_call 76; refine (HMK.out _ HA6.out).mono ?_; rintro e w6 ⟨hb_w6, v6, rfl, A7, c7, rfl, hc7, hA7⟩; have hz_w6 := hb_w6.size; (try simp at hz_w6); (with_reducible apply cel2 (b := w.heap.size) hb_w6); (focus ((try simp) <;> omega)); (focus omega); (focus (go_simp; try exact rfl)); (focus (go_simp; try exact rfl)); (focus (intro o; go_simp)); intro cc cc fz hl; (with_reducible apply cel2 (b := w.heap.size + 1) hb_w6); (focus ((try simp) <;> omega)); (focus omega); (focus (go_simp; try exact rfl)); (focus (go_simp; try exact rfl)); (focus (intro o; go_simp)); intro cc cc fz hl)
                  have HC7 := Lib.hid hc7
                  have HA7 := Lib.hid hA7
                  clear hc7 hA7
                  go_wp2_with fail
                  refine bodyPost_ret (v := .agg #[.bool (decide (Z < 0)), .slice A7 (canN Z.natAbs).length c7]) (by simp only [results, Try.results57]; go_simp) rfl ⟨?_, ?_⟩
                  · exact HBW.out.trans (by ((with_reducible (repeat (first | exact bR _ _ | refine bS ?_ ?_ _ | refine bA ?_ ?_ _ | refine bD ?_ | refine bT ?_ (by assumption) ?_ | refine bO (by assumption) ?_ ?_))) <;> (first | omega | (simp; done) | (simp <;> omega))))
                  · exact ⟨_, rfl, A7, c7, rfl, HC7.out, HA7.out.set2 (by assumption) (by assumption) _ _⟩
end Go.Proofs.Ytadkcipjcmkoiaa
