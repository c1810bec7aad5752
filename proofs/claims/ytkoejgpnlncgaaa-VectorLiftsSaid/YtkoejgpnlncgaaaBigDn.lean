/- The contract of pinballref01.Down. -/
import Derived.Test.YtkoejgpnlncgaaaBigUp
import Derived.Lib.ItoaNum
namespace Go.Proofs.Ytkoejgpnlncgaaa
open Go Go.RowKit
set_option linter.unusedVariables false
theorem pow2_split {k : Nat} (h : k ≤ 31) : ∃ Q : Int, 1 ≤ Q ∧ 4294967296 = 2 ^ k * Q := by
  refine ⟨2 ^ (32 - k), ?_, ?_⟩
  · have h : (0 : Int) < 2 ^ (32 - k) := Int.pow_pos (by decide)
    omega
  · rw [← Int.pow_add, show k + (32 - k) = 32 by omega]; rfl
theorem down_digit {x y T T2 P Q : Int} (hP : 1 ≤ P) (hQ : 1 ≤ Q) (hB : 4294967296 = P * Q) (x0 : 0 ≤ x) (x1 : x < 4294967296) (y0 : 0 ≤ y) (hT : T = y + 4294967296 * T2) :
    (x + 4294967296 * T) / P = ((x + 4294967296 * y) / P) % 4294967296 + 4294967296 * (T / P) := by
  have e1 : (x + 4294967296 * T) / P = x / P + Q * T := by rw [hB, Int.mul_assoc]; exact Int.add_mul_ediv_left _ _ (by omega)
  have e2 : (x + 4294967296 * y) / P = x / P + Q * y := by rw [hB, Int.mul_assoc]; exact Int.add_mul_ediv_left _ _ (by omega)
  have e3 : T / P = y / P + Q * T2 := by rw [hT, hB, Int.mul_assoc]; exact Int.add_mul_ediv_left _ _ (by omega)
  rw [e1, e2, e3]
  obtain ⟨q, hq⟩ : ∃ q, q = y / P := ⟨_, rfl⟩
  obtain ⟨r, hr⟩ : ∃ r, r = y % P := ⟨_, rfl⟩
  obtain ⟨a, ha⟩ : ∃ a, a = x / P := ⟨_, rfl⟩
  have r0 : 0 ≤ r := by rw [hr]; exact Int.emod_nonneg _ (by omega)
  have r1 : r < P := by rw [hr]; exact Int.emod_lt_of_pos _ (by omega)
  have a0 : 0 ≤ a := by rw [ha]; exact Int.ediv_nonneg x0 (by omega)
  have a1 : a < Q := by
    rw [ha]
    exact Int.ediv_lt_of_lt_mul (by omega) (by rw [Int.mul_comm]; omega)
  have hy : y = P * q + r := by rw [hq, hr]; exact (Int.mul_ediv_add_emod _ _).symm
  rw [← ha, ← hq]
  have f1 : Q * y = 4294967296 * q + Q * r := by rw [hy, hB]; grind
  have f2 : Q * r ≤ Q * (P - 1) := Int.mul_le_mul_of_nonneg_left (by omega) (by omega)
  have f3 : Q * (P - 1) = 4294967296 - Q := by rw [hB]; grind
  have f4 : 0 ≤ Q * r := Int.mul_nonneg (by omega) r0
  have f5 : Q * T = Q * y + 4294967296 * (Q * T2) := by rw [hT]; grind
  have f6 : (a + Q * y) % 4294967296 = a + Q * r := by
    rw [f1]
    omega
  rw [f6, f5, f1]
  omega
theorem down_step {m out : List Int} {i j : Nat} {P x y Y : Int} {k : Nat} (hk : k ≤ 31) (hP : P = 2 ^ k) (hm : Lim m) (ho : out.length = j) (h : mv out + PB j * (mv (m.drop i) / P) = Y) (hx : m[i]? = some x) (hy : (m[i + 1]?).getD 0 = y) :
    mv (out ++ [((x + 4294967296 * y) / P) % 4294967296]) + PB (j + 1) * (mv (m.drop (i + 1)) / P) = Y := by
  obtain ⟨Q, hQ, hB⟩ := pow2_split hk
  obtain ⟨p0, p1⟩ := pow2_bd hk
  rw [← hP] at hB p0 p1
  obtain ⟨x0, x1⟩ := hm.get hx
  have hT : ∃ T2, mv (m.drop (i + 1)) = y + 4294967296 * T2 ∧ 0 ≤ y := by
    rcases Nat.lt_or_ge (i + 1) m.length with hl | hl
    · have h1 : m[i + 1]? = some m[i + 1] := List.getElem?_eq_getElem hl
      refine ⟨mv (m.drop (i + 1 + 1)), ?_, ?_⟩
      · rw [mv_drop_succ h1, ← hy, h1]; rfl
      · rw [← hy, h1]; exact (hm.get h1).1
    · rw [List.drop_of_length_le hl]
      rw [List.getElem?_eq_none hl] at hy
      have : y = 0 := hy.symm
      exact ⟨0, by rw [this]; rfl, by omega⟩
  obtain ⟨T2, hT, y0⟩ := hT
  have hd := down_digit p0 hQ hB x0 x1 y0 hT
  rw [mv_drop_succ hx, hd] at h
  rw [mv_snoc, ho, PB_succ, ← h]
  grind
theorem down_word {x y P : Int} {k : Nat} (hk : k ≤ 31) (hP : P = 2 ^ k) (x0 : 0 ≤ x) (x1 : x < 4294967296) (y0 : 0 ≤ y) (y1 : y < 4294967296) :
    IntKind.u64.wrap (y * 4294967296) = y * 4294967296 ∧ bits .or .u64 x (y * 4294967296) = x + 4294967296 * y ∧ 0 ≤ x + 4294967296 * y ∧ x + 4294967296 * y < 18446744073709551616 := by
  refine ⟨by rw [IntKind.wrap_u64]; omega, ?_, by omega, by omega⟩
  have := bits_join_low .u64 64 (by decide) wraps_u64' 32 x (y * 4294967296) x0 (by omega) (by omega) (by omega) (Int.mul_emod_left _ _) (by omega)
  rw [this]
  omega
/-- What is lost. -/
theorem lost_iff {m : List Int} {wd k : Nat} {P D x : Int} (hk : k ≤ 31) (hP : P = 2 ^ k) (hD : D = PB wd * P) (hm : Lim m) (hw : wd < m.length) (hx : m[wd]? = some x) :
    mv m % D = 0 ↔ mv (m.take wd) = 0 ∧ x % P = 0 := by
  obtain ⟨Q, hQ, hB⟩ := pow2_split hk
  obtain ⟨p0, p1⟩ := pow2_bd hk
  rw [← hP] at hB p0 p1
  have a1 := mv_split m wd (by omega)
  have a2 := mv_drop_succ hx
  have b0 := mv_nonneg (hm.take wd)
  have b1 := mv_lt (hm.take wd)
  rw [List.length_take, Nat.min_eq_left (by omega)] at b1
  have q := PB_pos wd
  obtain ⟨Y, hY⟩ : ∃ Y, Y = mv (m.drop wd) := ⟨_, rfl⟩
  obtain ⟨L, hL⟩ : ∃ L, L = mv (m.take wd) := ⟨_, rfl⟩
  have hYx : Y % P = x % P := by
    rw [hY, a2, hB, Int.mul_assoc, Int.add_mul_emod_self_left]
  rw [← hL, ← hY] at a1
  rw [← hL] at b0 b1 ⊢
  have hDp : 0 < D := by rw [hD]; exact Int.mul_pos q (by omega)
  have e : mv m % D = L + PB wd * (Y % P) := by
    have h1 : Y = P * (Y / P) + Y % P := (Int.mul_ediv_add_emod _ _).symm
    have h2 : mv m = (L + PB wd * (Y % P)) + D * (Y / P) := by
      rw [a1, hD]
      conv => lhs; rw [h1]
      grind
    rw [h2, Int.add_mul_emod_self_left]
    have r0 := Int.emod_nonneg Y (show P ≠ 0 by omega)
    have r1 := Int.emod_lt_of_pos Y (show 0 < P by omega)
    have h3 : PB wd * (Y % P) ≤ PB wd * (P - 1) := Int.mul_le_mul_of_nonneg_left (by omega) (by omega)
    have h4 : PB wd * (P - 1) = D - PB wd := by rw [hD]; grind
    have h5 : 0 ≤ PB wd * (Y % P) := Int.mul_nonneg (by omega) r0
    exact Int.emod_eq_of_lt (by omega) (by omega)
  rw [e, ← hYx]
  have r0 := Int.emod_nonneg Y (show P ≠ 0 by omega)
  have h5 : 0 ≤ PB wd * (Y % P) := Int.mul_nonneg (by omega) r0
  constructor
  · intro h
    have h6 : L = 0 := by omega
    have h7 : PB wd * (Y % P) = 0 := by omega
    refine ⟨h6, ?_⟩
    rcases Int.mul_eq_zero.1 h7 with h8 | h8
    · omega
    · exact h8
  · rintro ⟨h6, h7⟩
    rw [h6, h7]; simp
theorem down_quo {m : List Int} {wd : Nat} {P D : Int} (p0 : 1 ≤ P) (hD : D = PB wd * P) (hm : Lim m) : mv m / D = mv (m.drop wd) / P := by
  have q := PB_pos wd
  rcases Nat.lt_or_ge m.length wd with h | h
  · rw [List.drop_of_length_le (by omega)]
    have h1 := mv_lt hm
    have h2 := PB_mono (show m.length ≤ wd by omega)
    have h3 := Int.mul_le_mul_of_nonneg_left p0 (Int.le_of_lt q)
    rw [Int.ediv_eq_zero_of_lt (mv_nonneg hm) (by rw [hD]; omega)]
    show 0 = 0 / P
    rw [Int.zero_ediv]
  · have a1 := mv_split m wd h
    have b0 := mv_nonneg (hm.take wd)
    have b1 := mv_lt (hm.take wd)
    rw [List.length_take, Nat.min_eq_left h] at b1
    rw [hD, ← Int.ediv_ediv_of_nonneg (by omega), a1, Int.add_mul_ediv_left _ _ (by omega), Int.ediv_eq_zero_of_lt b0 b1, Int.zero_add]
theorem canN_word {n : Nat} (h : n < 18446744073709551616) : (canN n).length ≤ 2 := by
  rw [canN_len]
  have : PB 2 = 18446744073709551616 := by decide
  omega
theorem canN_mono {a b : Nat} (h : a ≤ b) : (canN a).length ≤ (canN b).length := by
  rw [canN_len]
  have := (@canN_len b (canN b).length).1 (Nat.le_refl _)
  omega
theorem floor_neg {x D : Int} (hD : 0 < D) : (-x) / D = -(x / D) - (if x % D = 0 then 0 else 1) := by
  have h1 : x = D * (x / D) + x % D := (Int.mul_ediv_add_emod _ _).symm
  obtain ⟨q, hq⟩ : ∃ q, q = x / D := ⟨_, rfl⟩
  obtain ⟨r, hr⟩ : ∃ r, r = x % D := ⟨_, rfl⟩
  have r0 : 0 ≤ r := by rw [hr]; exact Int.emod_nonneg _ (by omega)
  have r1 : r < D := by rw [hr]; exact Int.emod_lt_of_pos _ hD
  rw [← hq, ← hr] at h1 ⊢
  by_cases h : r = 0
  · rw [if_pos h]
    have : -x = D * (-q) := by rw [h1, h]; grind
    rw [this, Int.mul_ediv_cancel_left _ (by omega)]
    omega
  · rw [if_neg h]
    have : -x = (D - r) + D * (-q - 1) := by rw [h1]; grind
    rw [this, Int.add_mul_ediv_left _ _ (by omega), Int.ediv_eq_zero_of_lt (by omega) (by omega)]
    omega
set_option maxRecDepth 100000 in
set_option maxHeartbeats 1000000 in
theorem down_any (n : Nat) (u : Value) (a : Int) (wd k : Nat) (w : World) (ha : IsZ w u n a) (hn : n ≤ 400000) (hk : k ≤ 31) (hW : wd ≤ 400000) :
    Calls Try.prog 109 #[u, .int .i64 (32 * (wd : Int) + (k : Int))] w (ZOut (a / (PB wd * 2 ^ k)) w) := by
  obtain ⟨p, A, c, l, rfl, hc, hL, hl, hAt, ea, ma, ca⟩ := isZ_open ha
  have hma := fun w' (h : Below w.heap.size w w') => mag_any A l c w' hL (hAt.below h) hc (by omega)
  rw [ma] at hma
  obtain ⟨x, hx⟩ : ∃ x, x = a.natAbs := ⟨_, rfl⟩
  rw [← hx] at hma ca ea
  obtain ⟨P, hP⟩ : ∃ P : Int, P = 2 ^ k := ⟨_, rfl⟩
  rw [← hP]
  obtain ⟨D, hD⟩ : ∃ D, D = PB wd * P := ⟨_, rfl⟩
  rw [← hD]
  obtain ⟨p0, p1⟩ := pow2_bd hk
  rw [← hP] at p0 p1
  obtain ⟨Z, hZ⟩ : ∃ Z, Z = a / D := ⟨_, rfl⟩
  have hDp : 0 < D := by rw [hD]; exact Int.mul_pos (PB_pos _) (by omega)
  have hz : Z = if p = true then (-((x : Int) / D) - (if (x : Int) % D = 0 then 0 else 1)) else (x : Int) / D := by
    rw [hZ, ea]
    unfold sv
    split
    · exact floor_neg hDp
    · rfl
  rw [← hZ]
  obtain ⟨N, hN⟩ : ∃ N : Int, N = 32 * (wd : Int) + (k : Int) := ⟨_, rfl⟩
  rw [← hN]
  have n0 : 0 ≤ N := by omega
  have n1 : N ≤ 100000000 := by omega
  have nq : N / 32 = (wd : Int) := by omega
  have nr : N % 32 = (k : Int) := by omega
  have k0 : (0 : Int) ≤ (k : Int) := by omega
  have k1 : (k : Int) ≤ 31 := by omega
  have w0' : (0 : Int) ≤ (wd : Int) := by omega
  have w1' : (wd : Int) ≤ 400000 := by omega
  have HMA := Lib.hid hma
  have HZ := Lib.hid hz
  have HP := Lib.hid hP
  have HD := Lib.hid hD
  clear hma hz ma hx hZ ea hAt hL ha hP hN hD
  go_enter Try.func109, Try.ntmps109; (try simp only [List.append_eq, List.cons_append, List.nil_append])
  go_wp2_with fail
  -- own blocks: w.heap.size:2, w.heap.size + 1:2
  have HB0 := Lib.hid (show Below w.heap.size w ((w.alloc (.cells #[.bool p, .slice A l.length c] 65)).alloc (.cells #[.bool false, .slice none 0 0] 65)) by ((with_reducible (repeat (first | exact bR _ _ | refine bS ?_ ?_ _ | refine bA ?_ ?_ _ | refine bD ?_ | refine bT ?_ (by assumption) ?_ | refine bO (by assumption) ?_ ?_))) <;> (first | omega | (simp; done) | (simp <;> omega))))
  (go_at_call 90; refine (HMA.out _ HB0.out).mono ?_; rintro e w4 ⟨hb_w4, A1, c1, rfl, hc1, hA1⟩; have hz_w4 := hb_w4.size; (try simp at hz_w4); (with_reducible apply cel2 (b := w.heap.size) hb_w4); (focus ((try simp) <;> omega)); (focus omega); (focus (go_simp; try exact rfl)); (focus (go_simp; try exact rfl)); (focus (intro o; go_simp)); intro cc cc fz hl; (with_reducible apply cel2 (b := w.heap.size + 1) hb_w4); (focus ((try simp) <;> omega)); (focus omega); (focus (go_simp; try exact rfl)); (focus (go_simp; try exact rfl)); (focus (intro o; go_simp)); intro cc cc fz hl)
  have HB4 := Lib.hid (HB0.out.trans (hb_w4.mono (by simp <;> omega)))
  have HA1 := Lib.hid hA1
  have HC1 := Lib.hid hc1
  obtain ⟨m, hm⟩ : ∃ m, m = canN x := ⟨_, rfl⟩
  have HM := Lib.hid hm
  have cx : m.length ≤ 400000 := by rw [hm]; omega
  rw [← hm] at HA1 HC1 ⊢
  clear hb_w4 hA1 hc1 HB0 hm
  have HLM := Lib.hid (show Lim m by rw [HM.out]; exact canN_lim _)
  go_wp2_with fail
  go_loop [7, 8] (fun vl vi => ∃ (i : Nat) (lb : Bool), i ≤ m.length ∧ i ≤ wd ∧ vi = .int .i64 i ∧ vl = .bool lb ∧ Hid (lb = decide (mv (m.take i) ≠ 0))) (fun _ vi => (m.length - (intOf vi).toNat))
  case atStart => exact ⟨0, false, by omega, by omega, rfl, rfl, Lib.hid rfl⟩
  case round =>
    obtain ⟨i, lb, hi, hi2, rfl, rfl, HLB⟩ := hrel
    have i1 : (0 : Int) ≤ (i : Int) := by omega
    have i3 : (i : Int) ≤ 400000 := by omega
    by_cases hil : i < m.length ∧ i < wd
    · obtain ⟨hil, hiw⟩ := hil
      obtain ⟨y, hy⟩ : ∃ y, m[i]? = some y := ⟨m[i], by simp⟩
      obtain ⟨g, o, rfl, hg, hcell⟩ := HA1.out i y hy
      obtain ⟨y0, y1⟩ := HLM.out.get hy
      have j1 : (i : Int) < (m.length : Int) := by omega
      have j2 : (i : Int) < (wd : Int) := by omega
      have HST := Lib.hid (show decide (mv (m.take (i + 1)) ≠ 0) = (lb || (y != 0)) by
        have h1 := mv_take_succ hy
        have h2 := mv_nonneg (HLM.out.take i)
        have q := PB_pos i
        have h3 : 0 ≤ PB i * y := Int.mul_nonneg (by omega) y0
        rw [HLB.out, Bool.eq_iff_iff]
        simp only [decide_eq_true_eq, Bool.or_eq_true, bne_iff_ne]
        by_cases hy0 : y = 0
        · subst hy0; rw [h1]; simp
        · have : PB i * y ≠ 0 := fun e => by rcases Int.mul_eq_zero.1 e with h | h <;> omega
          constructor
          · intro _; exact .inr hy0
          · intro _; omega)
      clear hy
      cases lb
      · go_wp2_with fail
        go_round
        case rel => exact ⟨i + 1, (y != 0), by omega, by omega, by go_num, rfl, Lib.hid (by rw [HST.out]; rfl)⟩
        case measure => simp [intOf]; omega
      · go_wp2_with fail
        go_round
        case rel => exact ⟨i + 1, true, by omega, by omega, by go_num, rfl, Lib.hid (by rw [HST.out]; rfl)⟩
        case measure => simp [intOf]; omega
    · have HLO := Lib.hid (show lb = decide (mv (m.take wd) ≠ 0) by
        rcases Nat.lt_or_ge i m.length with h | h
        · have : i = wd := by omega
          rw [← this]; exact HLB.out
        · have h1 := HLB.out
          rw [List.take_of_length_le (by omega)] at h1
          rw [List.take_of_length_le (by omega)]
          exact h1)
      have hpk := HP.out.symm
      rcases Nat.lt_or_ge i m.length with hl1 | hl1
      · have j1 : (i : Int) < (m.length : Int) := by omega
        have j2 : ¬ (i : Int) < (wd : Int) := by omega
        have hwl : wd < m.length := by omega
        clear hpk
        go_wp2_with fail
        clear hil HLB
        go_loopw [6, 10, 11] (fun v vi _ wr => ∃ (ii j : Nat) (out : List Int), (ii ≤ m.length ∨ j = 0) ∧ ii ≤ 800000 ∧ j ≤ 400000 ∧ vi = .int .i64 ii ∧ OwnL wr w4.heap.size v out ∧ Hid (ii = wd + j ∧ out.length = j ∧ Lim out ∧ mv out + PB j * (mv (m.drop ii) / P) = (x : Int) / D) ∧ Below w4.heap.size w4 wr) (fun _ vi _ _ => (m.length - (intOf vi).toNat))
        case atStart => exact ⟨wd, 0, [], .inr rfl, by omega, by omega, rfl, OwnL.nil _ _, Lib.hid ⟨by omega, rfl, Lim.nil, by
          have h := down_quo p0 HD.out HLM.out
          rw [HM.out, mv_canN] at h
          rw [h, HM.out]; simp [mv, PB_zero]⟩, Below.refl _ _⟩
        case round =>
          obtain ⟨ii, j, out, hij, hi8, hj4, rfl, hown, HO, hbel⟩ := hrel
          have HBE := Lib.hid hbel
          have HOW := Lib.hid hown
          have hsz := hbel.size
          have hla : LAt wr A1 m := HA1.out.below hbel
          have HLA := Lib.hid hla
          clear hbel hown hla
          have i1 : (0 : Int) ≤ (ii : Int) := by omega
          have i3 : (ii : Int) ≤ 800000 := by omega
          by_cases hil : ii < m.length
          · obtain ⟨y, hy⟩ : ∃ y, m[ii]? = some y := ⟨m[ii], by simp⟩
            obtain ⟨g, o, rfl, hg, hcell⟩ := HLA.out ii y hy
            obtain ⟨y0, y1⟩ := HLM.out.get hy
            have j1 : (ii : Int) < (m.length : Int) := by omega
            have HY := Lib.hid hy
            have hol : out.length ≤ 400000 := by have := HO.out.2.1; omega
            have hmin : min k 64 = k := by omega
            have hpk := HP.out.symm
            clear hy
            by_cases hil2 : ii + 1 < m.length
            · obtain ⟨y2, hy2⟩ : ∃ y2, m[ii + 1]? = some y2 := ⟨m[ii + 1], by simp⟩
              obtain ⟨g', o', he, hg', hcell2⟩ := HLA.out (ii + 1) y2 hy2
              simp only [Option.some.injEq, Addr.mk.injEq] at he
              obtain ⟨rfl, rfl, _⟩ := he
              obtain ⟨z0, z1⟩ := HLM.out.get hy2
              have j2 : (ii : Int) + 1 < (m.length : Int) := by omega
              have HST := Lib.hid (down_step hk HP.out HLM.out HO.out.2.1 HO.out.2.2.2 HY.out (getD_some hy2))
              obtain ⟨q1, q2, q3, q4⟩ := down_word hk HP.out y0 y1 z0 z1
              obtain ⟨S, hS⟩ : ∃ S, S = y + 4294967296 * y2 := ⟨_, rfl⟩
              rw [← hS] at q2 q3 q4
              have hSS := HST.out
              rw [← hS] at hSS
              have HST := Lib.hid hSS
              clear hS hy2 hSS
              have q5 : 0 ≤ S / P := Int.ediv_nonneg q3 (by omega)
              have q6 : S / P ≤ S := Int.ediv_le_self _ q3
              go_wp2_with (at_builtin; go_must (refine wpList_append_limbs rfl _ _ rfl w4.heap.size _ out rfl (HOW.out.alloc _) (some ⟨wr.heap.size, 0, none⟩) 1 [S / P % 4294967296] rfl (lat_one (by simp) (by go_simp)) (by simp; omega) (by simp; omega) ?_))
              intro v1 w1 hown1 hg1
              have HB1 := Lib.hid ((HBE.out.alloc (by omega) _).grown hg1 (by simp; omega) HOW.out.fresh)
              have HO1 := Lib.hid hown1
              clear hg1 hown1 hmin hpk
              go_wp2_with fail
              go_roundw
              case rel => exact ⟨ii + 1, j + 1, out ++ [S / P % 4294967296], .inl (by omega), by omega, by have := HO.out.1; omega, by go_num, HO1.out, Lib.hid ⟨by have := HO.out.1; omega, by rw [List.length_append, HO.out.2.1]; rfl, HO.out.2.2.1.snoc (by omega) (by omega), HST.out⟩, HB1.out⟩
              case measure => simp [intOf]; omega
            · have j2 : ¬ (ii : Int) + 1 < (m.length : Int) := by omega
              have hST := down_step hk HP.out HLM.out HO.out.2.1 HO.out.2.2.2 HY.out (getD_none (by omega))
              rw [Int.mul_zero, Int.add_zero] at hST
              have HST := Lib.hid hST
              clear hST
              have q5 : 0 ≤ y / P := Int.ediv_nonneg y0 (by omega)
              have q6 : y / P ≤ y := Int.ediv_le_self _ y0
              have q7 : y / P % 4294967296 = y / P := by omega
              have hST := HST.out
              rw [q7] at hST
              have HST := Lib.hid hST
              clear q7 hST
              go_wp2_with (at_builtin; go_must (refine wpList_append_limbs rfl _ _ rfl w4.heap.size _ out rfl (HOW.out.alloc _) (some ⟨wr.heap.size, 0, none⟩) 1 [y / P] rfl (lat_one (by simp) (by go_simp)) (by simp; omega) (by simp; omega) ?_))
              intro v1 w1 hown1 hg1
              have HB1 := Lib.hid ((HBE.out.alloc (by omega) _).grown hg1 (by simp; omega) HOW.out.fresh)
              have HO1 := Lib.hid hown1
              clear hg1 hown1 hmin hpk
              go_wp2_with fail
              go_roundw
              case rel => exact ⟨ii + 1, j + 1, out ++ [y / P], .inl (by omega), by omega, by have := HO.out.1; omega, by go_num, HO1.out, Lib.hid ⟨by have := HO.out.1; omega, by rw [List.length_append, HO.out.2.1]; rfl, HO.out.2.2.1.snoc (by omega) (by omega), HST.out⟩, HB1.out⟩
              case measure => simp [intOf]; omega
          · have j1 : ¬ (ii : Int) < (m.length : Int) := by omega
            have HF := Lib.hid (show mv out = (x : Int) / D by
              have h := HO.out.2.2.2
              rw [List.drop_of_length_le (by omega)] at h
              have : mv ([] : List Int) / P = 0 := Int.zero_ediv _
              rw [this] at h
              omega)
            obtain ⟨z, hzz⟩ : ∃ z, m[wd]? = some z := ⟨m[wd]'(by omega), by simp⟩
            obtain ⟨g, o, rfl, hg, hcell⟩ := HLA.out wd z hzz
            obtain ⟨z0, z1⟩ := HLM.out.get hzz
            have j3 : (wd : Int) < (m.length : Int) := by omega
            have hmin : min k 64 = k := by omega
            have hpk := HP.out.symm
            have HLI := Lib.hid (lost_iff hk HP.out HD.out HLM.out (by omega) hzz)
            clear hzz
            cases lb
            · obtain ⟨lf, hlf⟩ : ∃ lf, lf = (bits BinOp.and IntKind.u32 z (P - 1) != 0) := ⟨_, rfl⟩
              have HLF := Lib.hid (show lf = decide ((x : Int) % D ≠ 0) by
                have h1 : bits .and .u32 z (P - 1) = z % P := by
                  rw [HP.out]
                  exact bits_mask .u32 32 (by decide) (fun n h₀ h₁ => by rw [IntKind.wrap_u32]; omega) k (by omega) z z0 (by omega)
                have h2 := HLI.out
                rw [HM.out, mv_canN, ← HM.out] at h2
                have h3 := HLO.out
                rw [hlf, h1, Bool.eq_iff_iff]
                simp only [bne_iff_ne, decide_eq_true_eq]
                have h4 : mv (m.take wd) = 0 := by simpa using h3
                constructor
                · intro g e; exact g (h2.1 e).2
                · intro g e; exact g (h2.2 ⟨h4, e⟩))
              replace hlf := hlf.symm
              -- own blocks: w.heap.size:2, w.heap.size + 1:2
              obtain ⟨A5, c5, rfl, hc5, _, hA5⟩ := lat_of_own HOW.out
              have HC5 := Lib.hid hc5
              have HLO5 := Lib.hid hA5
              have hol : out.length ≤ 400000 := by have := HO.out.2.1; omega
              have hb_wr := HBE.out
              (with_reducible apply cel2 (b := w.heap.size) hb_wr); (focus ((try simp) <;> omega)); (focus omega); (focus (go_simp; try exact rfl)); (focus (go_simp; try exact rfl)); (focus (intro o; go_simp)); intro cc cc fz hl; (with_reducible apply cel2 (b := w.heap.size + 1) hb_wr); (focus ((try simp) <;> omega)); (focus omega); (focus (go_simp; try exact rfl)); (focus (go_simp; try exact rfl)); (focus (intro o; go_simp)); intro cc cc fz hl
              have HBW := Lib.hid (HB4.out.trans (hb_wr.mono (by have := HB4.out.size; omega)))
              have hz4 := HB4.out.size
              clear hb_wr hc5 hA5
              cases p
              · have HZE := Lib.hid (show Z = sv false ((x : Int) / D) by
                  have hz := HZ.out
                  simp only [reduceIte, Bool.false_eq_true] at hz
                  rw [hz]; rfl)
                have hmk := fun w' (h : LAt w' A5 out) => make1_any false A5 out c5 w' HO.out.2.2.1 h HC5.out (by omega)
                obtain ⟨q, hq⟩ : ∃ q, q = sv false ((x : Int) / D) := ⟨_, rfl⟩
                rw [HF.out, ← hq] at hmk
                have HMK := Lib.hid hmk
                have HQ0 := Lib.hid hq
                clear hmk hq
                go_wp2_with fail
                (go_at_call 89; refine (HMK.out _ HLO5.out).mono ?_; rintro e w5 ⟨hb_w5, v5, rfl, A6, c6, rfl, hc6, hA6⟩; have hz_w5 := hb_w5.size; (try simp at hz_w5); (with_reducible apply cel2 (b := w.heap.size) hb_w5); (focus ((try simp) <;> omega)); (focus omega); (focus (go_simp; try exact rfl)); (focus (go_simp; try exact rfl)); (focus (intro o; go_simp)); intro cc cc fz hl; (with_reducible apply cel2 (b := w.heap.size + 1) hb_w5); (focus ((try simp) <;> omega)); (focus omega); (focus (go_simp; try exact rfl)); (focus (go_simp; try exact rfl)); (focus (intro o; go_simp)); intro cc cc fz hl)
                have HB5 := Lib.hid (HBW.out.trans (hb_w5.mono (by omega)))
                have HC6 := Lib.hid hc6
                have HA6 := Lib.hid hA6
                clear hb_w5 hc6 hA6
                cases lf
                all_goals
                  go_wp2_with fail
                  refine bodyPost_ret (v := .agg #[.bool (decide (q < 0)), .slice A6 (canN q.natAbs).length c6]) (by simp only [results, Try.results109]; go_simp) rfl ⟨?_, ?_⟩
                  · exact ((HB5.out.setCell (by simp <;> omega) _).setCell (by simp <;> omega) _).alloc (by simp [World.setCell]; omega) _
                  · rw [HZE.out, ← HQ0.out]
                    exact ⟨_, rfl, A6, c6, rfl, HC6.out, (HA6.out.set2 (by assumption) (by assumption) _ _).alloc _⟩
              · have hmk := fun w' (h : LAt w' A5 out) => make1_any true A5 out c5 w' HO.out.2.2.1 h HC5.out (by omega)
                obtain ⟨q, hq⟩ : ∃ q, q = sv true ((x : Int) / D) := ⟨_, rfl⟩
                rw [HF.out, ← hq] at hmk
                have HMK := Lib.hid hmk
                have HQ0 := Lib.hid hq
                clear hmk hq
                go_wp2_with fail
                (go_at_call 89; refine (HMK.out _ HLO5.out).mono ?_; rintro e w5 ⟨hb_w5, v5, rfl, A6, c6, rfl, hc6, hA6⟩; have hz_w5 := hb_w5.size; (try simp at hz_w5); (with_reducible apply cel2 (b := w.heap.size) hb_w5); (focus ((try simp) <;> omega)); (focus omega); (focus (go_simp; try exact rfl)); (focus (go_simp; try exact rfl)); (focus (intro o; go_simp)); intro cc cc fz hl; (with_reducible apply cel2 (b := w.heap.size + 1) hb_w5); (focus ((try simp) <;> omega)); (focus omega); (focus (go_simp; try exact rfl)); (focus (go_simp; try exact rfl)); (focus (intro o; go_simp)); intro cc cc fz hl)
                have HB5 := Lib.hid (HBW.out.trans (hb_w5.mono (by omega)))
                have HC6 := Lib.hid hc6
                have HA6 := Lib.hid hA6
                clear hb_w5 hc6 hA6
                cases lf
                · have HZE := Lib.hid (show Z = sv true ((x : Int) / D) by
                    have h := HLF.out
                    have hz := HZ.out
                    simp only [reduceIte] at hz
                    rw [hz, if_pos (by simpa using h)]
                    unfold sv
                    rw [if_pos rfl]
                    omega)
                  go_wp2_with fail
                  refine bodyPost_ret (v := .agg #[.bool (decide (q < 0)), .slice A6 (canN q.natAbs).length c6]) (by simp only [results, Try.results109]; go_simp) rfl ⟨?_, ?_⟩
                  · exact ((HB5.out.setCell (by simp <;> omega) _).setCell (by simp <;> omega) _).alloc (by simp [World.setCell]; omega) _
                  · rw [HZE.out, ← HQ0.out]
                    exact ⟨_, rfl, A6, c6, rfl, HC6.out, (HA6.out.set2 (by assumption) (by assumption) _ _).alloc _⟩
                · have HZE := Lib.hid (show Z = -((x : Int) / D) - 1 by
                    have h := HLF.out
                    have hz := HZ.out
                    simp only [reduceIte] at hz
                    rw [hz, if_neg (by simpa using h)])
                  have HQ := Lib.hid (show Z = q - 1 by rw [HZE.out, HQ0.out]; rfl)
                  have HRC := Lib.hid (show IsC w5 (.agg #[.bool (decide (q < 0)), .slice A6 (canN q.natAbs).length c6]) q from ⟨A6, c6, rfl, HC6.out, HA6.out⟩)
                  have HQL := Lib.hid (show (canN q.natAbs).length ≤ 400000 by
                    have h1 : q.natAbs ≤ x := by
                      rw [HQ0.out]
                      have h2 := Int.ediv_le_self D (show (0 : Int) ≤ (x : Int) by omega)
                      have h3 : 0 ≤ (x : Int) / D := Int.ediv_nonneg (by omega) (by omega)
                      unfold sv
                      rw [if_pos rfl]
                      omega
                    have := canN_mono h1
                    omega)
                  go_wp2_with fail
                  -- own blocks besides: w5.heap.size:2
                  have HR5 := Lib.hid (HRC.out.below ((Below.refl w5.heap.size w5).alloc (Nat.le_refl _) (.cells #[.bool (decide (q < 0)), .slice A6 (canN q.natAbs).length c6] 65)))
                  have HB5' := Lib.hid (HB5.out.alloc (by omega) (.cells #[.bool (decide (q < 0)), .slice A6 (canN q.natAbs).length c6] 65))
                  (refine pin_wp (N := _) (Nat.le_refl _) (fun w6 hb_w6 hz_w6 => ?_); (try simp at hz_w6); (with_reducible apply cel2 (b := w.heap.size) hb_w6); (focus ((try simp) <;> omega)); (focus omega); (focus (go_simp; try exact rfl)); (focus (go_simp; try exact rfl)); (focus (intro o; go_simp)); intro cc cc fz hl; (with_reducible apply cel2 (b := w.heap.size + 1) hb_w6); (focus ((try simp) <;> omega)); (focus omega); (focus (go_simp; try exact rfl)); (focus (go_simp; try exact rfl)); (focus (intro o; go_simp)); intro cc cc fz hl; (with_reducible apply cel2 (b := w5.heap.size) hb_w6); (focus ((try simp) <;> omega)); (focus omega); (focus (go_simp; try exact rfl)); (focus (go_simp; try exact rfl)); (focus (intro o; go_simp)); intro cc cc fz hl); refine wp_region_float w6.heap.size 3 (Nat.le_refl _) (fun _ => True) trivial Cl.tt (by kernel_rfl) (by simp) ?_
                  have HR6 := Lib.hid (HR5.out.below hb_w6)
                  have HB6 := Lib.hid (HB5'.out.trans (hb_w6.mono (by simp <;> omega)))
                  clear hb_w6
                  refine wpI_start [0] ?_; (iterate 1 (first | (refine wpI_off rfl (by kernel_rfl) rfl (fun K hK => ?_); go_simp; refine hK _ ?_; clear hK K) | ((first | apply wpI_step rfl (by kernel_rfl) rfl | apply wpI_on rfl (by kernel_rfl) rfl); (focus (intro W' hS; have hcS := hS.cells.1; have hfS := hS.cells.2; go_simp; (first | done | exact rfl | exact ⟨rfl, Below.refl _ _⟩ | (go_simp; first | done | exact rfl | exact ⟨rfl, Below.refl _ _⟩)))); intro K hK; go_simp; (try go_bits); refine hK _ ?_; clear hK K))); refine wpI_nil ?_
                  apply wpF_call (i := 1) rfl (by kernel_rfl) (by kernel_rfl); intro W hF hS; have hcS := hS.1.cells.1; have hfS := hS.1.cells.2; go_simp; (go_at_call 67; refine (of_any 1 _ (by omega) (by omega)).mono ?_; rintro e w7 ⟨hb_w7, v7, rfl, hv7⟩; refine XPost.mk _ (fun W => IsC W v7 1) hb_w7 (hv7) (IsC.cl _ _) ?_); clear hb_w7 hcS hfS hS hF
                  intro K hK; go_simp; (try go_bits); refine hK _ ?_; clear hK K
                  clear hv7
                  apply wpF_call (i := 2) rfl (by kernel_rfl) (by kernel_rfl); intro W hF hS; have hcS := hS.1.cells.1; have hfS := hS.1.cells.2; go_simp; (go_at_call 97; refine (minus_any 400000 _ _ q 1 W ((HR6.out.below hS.1.2).zl HQL.out) (hF.zl (Nat.le_trans (canN_word (by decide)) (by decide))) (by omega)).mono ?_; rintro e w8 ⟨hb_w8, v8, rfl, A8, c8, rfl, hc8, hA8⟩; refine XPost.mk _ (fun W => LAt W A8 (canN (q - 1).natAbs)) hb_w8 (hA8) (LAt.cl _ _) ?_); clear hb_w8 hcS hfS hS hF
                  intro K hK; go_simp; (try go_bits); refine hK _ ?_; clear hK K
                  have HC8 := Lib.hid hc8
                  clear hA8 hc8
                  refine wpF_done (by kernel_rfl) ?_
                  intro w9 hF_w9 hSG
                  have hz_w9 := hSG.1.1
                  have hb_w9 := hSG.1.2
                  clear hSG
                  (with_reducible apply cel2 (b := w.heap.size) hb_w9); (focus ((try simp) <;> omega)); (focus omega); (focus (go_simp; try exact rfl)); (focus (go_simp; try exact rfl)); (focus (intro o; go_simp)); intro cc cc fz hl; (with_reducible apply cel2 (b := w.heap.size + 1) hb_w9); (focus ((try simp) <;> omega)); (focus omega); (focus (go_simp; try exact rfl)); (focus (go_simp; try exact rfl)); (focus (intro o; go_simp)); intro cc cc fz hl; (with_reducible apply cel2 (b := w5.heap.size) hb_w9); (focus ((try simp) <;> omega)); (focus omega); (focus (go_simp; try exact rfl)); (focus (go_simp; try exact rfl)); (focus (intro o; go_simp)); intro cc cc fz hl
                  (try simp only [List.drop_succ_cons, List.drop_zero])
                  have HB9 := Lib.hid (HB6.out.trans (hb_w9.mono (by omega)))
                  have HL9 := Lib.hid hF_w9.2
                  clear hb_w9 hF_w9
                  go_wp2_with fail
                  refine bodyPost_ret (v := .agg #[.bool (decide (q - 1 < 0)), .slice A8 (canN (q - 1).natAbs).length c8]) (by simp only [results, Try.results109]; go_simp) rfl ⟨?_, ?_⟩
                  · exact (HB9.out.setCell (by simp <;> omega) _).setCell (by simp <;> omega) _
                  · rw [HQ.out]
                    exact ⟨_, rfl, A8, c8, rfl, HC8.out, HL9.out.set2 (by assumption) (by assumption) _ _⟩
            · have HLF := Lib.hid (show true = decide ((x : Int) % D ≠ 0) by
                have h2 := HLI.out
                rw [HM.out, mv_canN, ← HM.out] at h2
                have h3 := HLO.out
                symm
                rw [decide_eq_true_eq]
                intro e
                have h4 := (h2.1 e).1
                simp [h4] at h3)
              -- own blocks: w.heap.size:2, w.heap.size + 1:2
              obtain ⟨A5, c5, rfl, hc5, _, hA5⟩ := lat_of_own HOW.out
              have HC5 := Lib.hid hc5
              have HLO5 := Lib.hid hA5
              have hol : out.length ≤ 400000 := by have := HO.out.2.1; omega
              have hb_wr := HBE.out
              (with_reducible apply cel2 (b := w.heap.size) hb_wr); (focus ((try simp) <;> omega)); (focus omega); (focus (go_simp; try exact rfl)); (focus (go_simp; try exact rfl)); (focus (intro o; go_simp)); intro cc cc fz hl; (with_reducible apply cel2 (b := w.heap.size + 1) hb_wr); (focus ((try simp) <;> omega)); (focus omega); (focus (go_simp; try exact rfl)); (focus (go_simp; try exact rfl)); (focus (intro o; go_simp)); intro cc cc fz hl
              have HBW := Lib.hid (HB4.out.trans (hb_wr.mono (by have := HB4.out.size; omega)))
              have hz4 := HB4.out.size
              clear hb_wr hc5 hA5
              cases p
              · have HZE := Lib.hid (show Z = sv false ((x : Int) / D) by
                  have hz := HZ.out
                  simp only [reduceIte, Bool.false_eq_true] at hz
                  rw [hz]; rfl)
                have hmk := fun w' (h : LAt w' A5 out) => make1_any false A5 out c5 w' HO.out.2.2.1 h HC5.out (by omega)
                obtain ⟨q, hq⟩ : ∃ q, q = sv false ((x : Int) / D) := ⟨_, rfl⟩
                rw [HF.out, ← hq] at hmk
                have HMK := Lib.hid hmk
                have HQ0 := Lib.hid hq
                clear hmk hq
                go_wp2_with fail
                (go_at_call 89; refine (HMK.out _ HLO5.out).mono ?_; rintro e w5 ⟨hb_w5, v5, rfl, A6, c6, rfl, hc6, hA6⟩; have hz_w5 := hb_w5.size; (try simp at hz_w5); (with_reducible apply cel2 (b := w.heap.size) hb_w5); (focus ((try simp) <;> omega)); (focus omega); (focus (go_simp; try exact rfl)); (focus (go_simp; try exact rfl)); (focus (intro o; go_simp)); intro cc cc fz hl; (with_reducible apply cel2 (b := w.heap.size + 1) hb_w5); (focus ((try simp) <;> omega)); (focus omega); (focus (go_simp; try exact rfl)); (focus (go_simp; try exact rfl)); (focus (intro o; go_simp)); intro cc cc fz hl)
                have HB5 := Lib.hid (HBW.out.trans (hb_w5.mono (by omega)))
                have HC6 := Lib.hid hc6
                have HA6 := Lib.hid hA6
                clear hb_w5 hc6 hA6
                go_wp2_with fail
                refine bodyPost_ret (v := .agg #[.bool (decide (q < 0)), .slice A6 (canN q.natAbs).length c6]) (by simp only [results, Try.results109]; go_simp) rfl ⟨?_, ?_⟩
                · exact ((HB5.out.setCell (by simp <;> omega) _).setCell (by simp <;> omega) _).alloc (by simp [World.setCell]; omega) _
                · rw [HZE.out, ← HQ0.out]
                  exact ⟨_, rfl, A6, c6, rfl, HC6.out, (HA6.out.set2 (by assumption) (by assumption) _ _).alloc _⟩
              · have hmk := fun w' (h : LAt w' A5 out) => make1_any true A5 out c5 w' HO.out.2.2.1 h HC5.out (by omega)
                obtain ⟨q, hq⟩ : ∃ q, q = sv true ((x : Int) / D) := ⟨_, rfl⟩
                rw [HF.out, ← hq] at hmk
                have HMK := Lib.hid hmk
                have HQ0 := Lib.hid hq
                clear hmk hq
                go_wp2_with fail
                (go_at_call 89; refine (HMK.out _ HLO5.out).mono ?_; rintro e w5 ⟨hb_w5, v5, rfl, A6, c6, rfl, hc6, hA6⟩; have hz_w5 := hb_w5.size; (try simp at hz_w5); (with_reducible apply cel2 (b := w.heap.size) hb_w5); (focus ((try simp) <;> omega)); (focus omega); (focus (go_simp; try exact rfl)); (focus (go_simp; try exact rfl)); (focus (intro o; go_simp)); intro cc cc fz hl; (with_reducible apply cel2 (b := w.heap.size + 1) hb_w5); (focus ((try simp) <;> omega)); (focus omega); (focus (go_simp; try exact rfl)); (focus (go_simp; try exact rfl)); (focus (intro o; go_simp)); intro cc cc fz hl)
                have HB5 := Lib.hid (HBW.out.trans (hb_w5.mono (by omega)))
                have HC6 := Lib.hid hc6
                have HA6 := Lib.hid hA6
                clear hb_w5 hc6 hA6
                have HZE := Lib.hid (show Z = -((x : Int) / D) - 1 by
                  have h := HLF.out
                  have hz := HZ.out
                  simp only [reduceIte] at hz
                  rw [hz, if_neg (by simpa using h)])
                have HQ := Lib.hid (show Z = q - 1 by rw [HZE.out, HQ0.out]; rfl)
                have HRC := Lib.hid (show IsC w5 (.agg #[.bool (decide (q < 0)), .slice A6 (canN q.natAbs).length c6]) q from ⟨A6, c6, rfl, HC6.out, HA6.out⟩)
                have HQL := Lib.hid (show (canN q.natAbs).length ≤ 400000 by
                  have h1 : q.natAbs ≤ x := by
                    rw [HQ0.out]
                    have h2 := Int.ediv_le_self D (show (0 : Int) ≤ (x : Int) by omega)
                    have h3 : 0 ≤ (x : Int) / D := Int.ediv_nonneg (by omega) (by omega)
                    unfold sv
                    rw [if_pos rfl]
                    omega
                  have := canN_mono h1
                  omega)
                go_wp2_with fail
                -- own blocks besides: w5.heap.size:2
                have HR5 := Lib.hid (HRC.out.below ((Below.refl w5.heap.size w5).alloc (Nat.le_refl _) (.cells #[.bool (decide (q < 0)), .slice A6 (canN q.natAbs).length c6] 65)))
                have HB5' := Lib.hid (HB5.out.alloc (by omega) (.cells #[.bool (decide (q < 0)), .slice A6 (canN q.natAbs).length c6] 65))
                (refine pin_wp (N := _) (Nat.le_refl _) (fun w6 hb_w6 hz_w6 => ?_); (try simp at hz_w6); (with_reducible apply cel2 (b := w.heap.size) hb_w6); (focus ((try simp) <;> omega)); (focus omega); (focus (go_simp; try exact rfl)); (focus (go_simp; try exact rfl)); (focus (intro o; go_simp)); intro cc cc fz hl; (with_reducible apply cel2 (b := w.heap.size + 1) hb_w6); (focus ((try simp) <;> omega)); (focus omega); (focus (go_simp; try exact rfl)); (focus (go_simp; try exact rfl)); (focus (intro o; go_simp)); intro cc cc fz hl; (with_reducible apply cel2 (b := w5.heap.size) hb_w6); (focus ((try simp) <;> omega)); (focus omega); (focus (go_simp; try exact rfl)); (focus (go_simp; try exact rfl)); (focus (intro o; go_simp)); intro cc cc fz hl); refine wp_region_float w6.heap.size 3 (Nat.le_refl _) (fun _ => True) trivial Cl.tt (by kernel_rfl) (by simp) ?_
                have HR6 := Lib.hid (HR5.out.below hb_w6)
                have HB6 := Lib.hid (HB5'.out.trans (hb_w6.mono (by simp <;> omega)))
                clear hb_w6
                refine wpI_start [0] ?_; (iterate 1 (first | (refine wpI_off rfl (by kernel_rfl) rfl (fun K hK => ?_); go_simp; refine hK _ ?_; clear hK K) | ((first | apply wpI_step rfl (by kernel_rfl) rfl | apply wpI_on rfl (by kernel_rfl) rfl); (focus (intro W' hS; have hcS := hS.cells.1; have hfS := hS.cells.2; go_simp; (first | done | exact rfl | exact ⟨rfl, Below.refl _ _⟩ | (go_simp; first | done | exact rfl | exact ⟨rfl, Below.refl _ _⟩)))); intro K hK; go_simp; (try go_bits); refine hK _ ?_; clear hK K))); refine wpI_nil ?_
                apply wpF_call (i := 1) rfl (by kernel_rfl) (by kernel_rfl); intro W hF hS; have hcS := hS.1.cells.1; have hfS := hS.1.cells.2; go_simp; (go_at_call 67; refine (of_any 1 _ (by omega) (by omega)).mono ?_; rintro e w7 ⟨hb_w7, v7, rfl, hv7⟩; refine XPost.mk _ (fun W => IsC W v7 1) hb_w7 (hv7) (IsC.cl _ _) ?_); clear hb_w7 hcS hfS hS hF
                intro K hK; go_simp; (try go_bits); refine hK _ ?_; clear hK K
                clear hv7
                apply wpF_call (i := 2) rfl (by kernel_rfl) (by kernel_rfl); intro W hF hS; have hcS := hS.1.cells.1; have hfS := hS.1.cells.2; go_simp; (go_at_call 97; refine (minus_any 400000 _ _ q 1 W ((HR6.out.below hS.1.2).zl HQL.out) (hF.zl (Nat.le_trans (canN_word (by decide)) (by decide))) (by omega)).mono ?_; rintro e w8 ⟨hb_w8, v8, rfl, A8, c8, rfl, hc8, hA8⟩; refine XPost.mk _ (fun W => LAt W A8 (canN (q - 1).natAbs)) hb_w8 (hA8) (LAt.cl _ _) ?_); clear hb_w8 hcS hfS hS hF
                intro K hK; go_simp; (try go_bits); refine hK _ ?_; clear hK K
                have HC8 := Lib.hid hc8
                clear hA8 hc8
                refine wpF_done (by kernel_rfl) ?_
                intro w9 hF_w9 hSG
                have hz_w9 := hSG.1.1
                have hb_w9 := hSG.1.2
                clear hSG
                (with_reducible apply cel2 (b := w.heap.size) hb_w9); (focus ((try simp) <;> omega)); (focus omega); (focus (go_simp; try exact rfl)); (focus (go_simp; try exact rfl)); (focus (intro o; go_simp)); intro cc cc fz hl; (with_reducible apply cel2 (b := w.heap.size + 1) hb_w9); (focus ((try simp) <;> omega)); (focus omega); (focus (go_simp; try exact rfl)); (focus (go_simp; try exact rfl)); (focus (intro o; go_simp)); intro cc cc fz hl; (with_reducible apply cel2 (b := w5.heap.size) hb_w9); (focus ((try simp) <;> omega)); (focus omega); (focus (go_simp; try exact rfl)); (focus (go_simp; try exact rfl)); (focus (intro o; go_simp)); intro cc cc fz hl
                (try simp only [List.drop_succ_cons, List.drop_zero])
                have HB9 := Lib.hid (HB6.out.trans (hb_w9.mono (by omega)))
                have HL9 := Lib.hid hF_w9.2
                clear hb_w9 hF_w9
                go_wp2_with fail
                refine bodyPost_ret (v := .agg #[.bool (decide (q - 1 < 0)), .slice A8 (canN (q - 1).natAbs).length c8]) (by simp only [results, Try.results109]; go_simp) rfl ⟨?_, ?_⟩
                · exact (HB9.out.setCell (by simp <;> omega) _).setCell (by simp <;> omega) _
                · rw [HQ.out]
                  exact ⟨_, rfl, A8, c8, rfl, HC8.out, HL9.out.set2 (by assumption) (by assumption) _ _⟩
      · have j1 : ¬ (i : Int) < (m.length : Int) := by omega
        have hwl : m.length ≤ wd := by omega
        clear hpk
        go_wp2_with fail
        clear hil HLB
        go_loopw [6, 10, 11] (fun v vi _ wr => ∃ (ii j : Nat) (out : List Int), (ii ≤ m.length ∨ j = 0) ∧ ii ≤ 800000 ∧ j ≤ 400000 ∧ vi = .int .i64 ii ∧ OwnL wr w4.heap.size v out ∧ Hid (ii = wd + j ∧ out.length = j ∧ Lim out ∧ mv out + PB j * (mv (m.drop ii) / P) = (x : Int) / D) ∧ Below w4.heap.size w4 wr) (fun _ vi _ _ => (m.length - (intOf vi).toNat))
        case atStart => exact ⟨wd, 0, [], .inr rfl, by omega, by omega, rfl, OwnL.nil _ _, Lib.hid ⟨by omega, rfl, Lim.nil, by
          have h := down_quo p0 HD.out HLM.out
          rw [HM.out, mv_canN] at h
          rw [h, HM.out]; simp [mv, PB_zero]⟩, Below.refl _ _⟩
        case round =>
          obtain ⟨ii, j, out, hij, hi8, hj4, rfl, hown, HO, hbel⟩ := hrel
          have HBE := Lib.hid hbel
          have HOW := Lib.hid hown
          have hsz := hbel.size
          have hla : LAt wr A1 m := HA1.out.below hbel
          have HLA := Lib.hid hla
          clear hbel hown hla
          have i1 : (0 : Int) ≤ (ii : Int) := by omega
          have i3 : (ii : Int) ≤ 800000 := by omega
          by_cases hil : ii < m.length
          · exact absurd hil (by have := HO.out.1; omega)
          · have j1 : ¬ (ii : Int) < (m.length : Int) := by omega
            have HF := Lib.hid (show mv out = (x : Int) / D by
              have h := HO.out.2.2.2
              rw [List.drop_of_length_le (by omega)] at h
              have : mv ([] : List Int) / P = 0 := Int.zero_ediv _
              rw [this] at h
              omega)
            have j3 : ¬ (wd : Int) < (m.length : Int) := by omega
            have HLF := Lib.hid (show lb = decide ((x : Int) % D ≠ 0) by
              have h3 := HLO.out
              rw [List.take_of_length_le (by omega), HM.out, mv_canN] at h3
              rw [h3]
              have h1 : (x : Int) % D = x := by
                refine Int.emod_eq_of_lt (by omega) ?_
                have h5 := mv_lt HLM.out
                rw [HM.out, mv_canN, ← HM.out] at h5
                have h6 := PB_mono hwl
                have h7 := Int.mul_le_mul_of_nonneg_left p0 (Int.le_of_lt (PB_pos wd))
                rw [HD.out]
                omega
              rw [h1])
            -- own blocks: w.heap.size:2, w.heap.size + 1:2
            obtain ⟨A5, c5, rfl, hc5, _, hA5⟩ := lat_of_own HOW.out
            have HC5 := Lib.hid hc5
            have HLO5 := Lib.hid hA5
            have hol : out.length ≤ 400000 := by have := HO.out.2.1; omega
            have hb_wr := HBE.out
            (with_reducible apply cel2 (b := w.heap.size) hb_wr); (focus ((try simp) <;> omega)); (focus omega); (focus (go_simp; try exact rfl)); (focus (go_simp; try exact rfl)); (focus (intro o; go_simp)); intro cc cc fz hl; (with_reducible apply cel2 (b := w.heap.size + 1) hb_wr); (focus ((try simp) <;> omega)); (focus omega); (focus (go_simp; try exact rfl)); (focus (go_simp; try exact rfl)); (focus (intro o; go_simp)); intro cc cc fz hl
            have HBW := Lib.hid (HB4.out.trans (hb_wr.mono (by have := HB4.out.size; omega)))
            have hz4 := HB4.out.size
            clear hb_wr hc5 hA5
            cases p
            · have HZE := Lib.hid (show Z = sv false ((x : Int) / D) by
                have hz := HZ.out
                simp only [reduceIte, Bool.false_eq_true] at hz
                rw [hz]; rfl)
              have hmk := fun w' (h : LAt w' A5 out) => make1_any false A5 out c5 w' HO.out.2.2.1 h HC5.out (by omega)
              obtain ⟨q, hq⟩ : ∃ q, q = sv false ((x : Int) / D) := ⟨_, rfl⟩
              rw [HF.out, ← hq] at hmk
              have HMK := Lib.hid hmk
              have HQ0 := Lib.hid hq
              clear hmk hq
              go_wp2_with fail
              (go_at_call 89; refine (HMK.out _ HLO5.out).mono ?_; rintro e w5 ⟨hb_w5, v5, rfl, A6, c6, rfl, hc6, hA6⟩; have hz_w5 := hb_w5.size; (try simp at hz_w5); (with_reducible apply cel2 (b := w.heap.size) hb_w5); (focus ((try simp) <;> omega)); (focus omega); (focus (go_simp; try exact rfl)); (focus (go_simp; try exact rfl)); (focus (intro o; go_simp)); intro cc cc fz hl; (with_reducible apply cel2 (b := w.heap.size + 1) hb_w5); (focus ((try simp) <;> omega)); (focus omega); (focus (go_simp; try exact rfl)); (focus (go_simp; try exact rfl)); (focus (intro o; go_simp)); intro cc cc fz hl)
              have HB5 := Lib.hid (HBW.out.trans (hb_w5.mono (by omega)))
              have HC6 := Lib.hid hc6
              have HA6 := Lib.hid hA6
              clear hb_w5 hc6 hA6
              cases lb
              all_goals
                go_wp2_with fail
                refine bodyPost_ret (v := .agg #[.bool (decide (q < 0)), .slice A6 (canN q.natAbs).length c6]) (by simp only [results, Try.results109]; go_simp) rfl ⟨?_, ?_⟩
                · exact ((HB5.out.setCell (by simp <;> omega) _).setCell (by simp <;> omega) _).alloc (by simp [World.setCell]; omega) _
                · rw [HZE.out, ← HQ0.out]
                  exact ⟨_, rfl, A6, c6, rfl, HC6.out, (HA6.out.set2 (by assumption) (by assumption) _ _).alloc _⟩
            · have hmk := fun w' (h : LAt w' A5 out) => make1_any true A5 out c5 w' HO.out.2.2.1 h HC5.out (by omega)
              obtain ⟨q, hq⟩ : ∃ q, q = sv true ((x : Int) / D) := ⟨_, rfl⟩
              rw [HF.out, ← hq] at hmk
              have HMK := Lib.hid hmk
              have HQ0 := Lib.hid hq
              clear hmk hq
              go_wp2_with fail
              (go_at_call 89; refine (HMK.out _ HLO5.out).mono ?_; rintro e w5 ⟨hb_w5, v5, rfl, A6, c6, rfl, hc6, hA6⟩; have hz_w5 := hb_w5.size; (try simp at hz_w5); (with_reducible apply cel2 (b := w.heap.size) hb_w5); (focus ((try simp) <;> omega)); (focus omega); (focus (go_simp; try exact rfl)); (focus (go_simp; try exact rfl)); (focus (intro o; go_simp)); intro cc cc fz hl; (with_reducible apply cel2 (b := w.heap.size + 1) hb_w5); (focus ((try simp) <;> omega)); (focus omega); (focus (go_simp; try exact rfl)); (focus (go_simp; try exact rfl)); (focus (intro o; go_simp)); intro cc cc fz hl)
              have HB5 := Lib.hid (HBW.out.trans (hb_w5.mono (by omega)))
              have HC6 := Lib.hid hc6
              have HA6 := Lib.hid hA6
              clear hb_w5 hc6 hA6
              cases lb
              · have HZE := Lib.hid (show Z = sv true ((x : Int) / D) by
                  have h := HLF.out
                  have hz := HZ.out
                  simp only [reduceIte] at hz
                  rw [hz, if_pos (by simpa using h)]
                  unfold sv
                  rw [if_pos rfl]
                  omega)
                go_wp2_with fail
                refine bodyPost_ret (v := .agg #[.bool (decide (q < 0)), .slice A6 (canN q.natAbs).length c6]) (by simp only [results, Try.results109]; go_simp) rfl ⟨?_, ?_⟩
                · exact ((HB5.out.setCell (by simp <;> omega) _).setCell (by simp <;> omega) _).alloc (by simp [World.setCell]; omega) _
                · rw [HZE.out, ← HQ0.out]
                  exact ⟨_, rfl, A6, c6, rfl, HC6.out, (HA6.out.set2 (by assumption) (by assumption) _ _).alloc _⟩
              · have HZE := Lib.hid (show Z = -((x : Int) / D) - 1 by
                  have h := HLF.out
                  have hz := HZ.out
                  simp only [reduceIte] at hz
                  rw [hz, if_neg (by simpa using h)])
                have HQ := Lib.hid (show Z = q - 1 by rw [HZE.out, HQ0.out]; rfl)
                have HRC := Lib.hid (show IsC w5 (.agg #[.bool (decide (q < 0)), .slice A6 (canN q.natAbs).length c6]) q from ⟨A6, c6, rfl, HC6.out, HA6.out⟩)
                have HQL := Lib.hid (show (canN q.natAbs).length ≤ 400000 by
                  have h1 : q.natAbs ≤ x := by
                    rw [HQ0.out]
                    have h2 := Int.ediv_le_self D (show (0 : Int) ≤ (x : Int) by omega)
                    have h3 : 0 ≤ (x : Int) / D := Int.ediv_nonneg (by omega) (by omega)
                    unfold sv
                    rw [if_pos rfl]
                    omega
                  have := canN_mono h1
                  omega)
                go_wp2_with fail
                -- own blocks besides: w5.heap.size:2
                have HR5 := Lib.hid (HRC.out.below ((Below.refl w5.heap.size w5).alloc (Nat.le_refl _) (.cells #[.bool (decide (q < 0)), .slice A6 (canN q.natAbs).length c6] 65)))
                have HB5' := Lib.hid (HB5.out.alloc (by omega) (.cells #[.bool (decide (q < 0)), .slice A6 (canN q.natAbs).length c6] 65))
                (refine pin_wp (N := _) (Nat.le_refl _) (fun w6 hb_w6 hz_w6 => ?_); (try simp at hz_w6); (with_reducible apply cel2 (b := w.heap.size) hb_w6); (focus ((try simp) <;> omega)); (focus omega); (focus (go_simp; try exact rfl)); (focus (go_simp; try exact rfl)); (focus (intro o; go_simp)); intro cc cc fz hl; (with_reducible apply cel2 (b := w.heap.size + 1) hb_w6); (focus ((try simp) <;> omega)); (focus omega); (focus (go_simp; try exact rfl)); (focus (go_simp; try exact rfl)); (focus (intro o; go_simp)); intro cc cc fz hl; (with_reducible apply cel2 (b := w5.heap.size) hb_w6); (focus ((try simp) <;> omega)); (focus omega); (focus (go_simp; try exact rfl)); (focus (go_simp; try exact rfl)); (focus (intro o; go_simp)); intro cc cc fz hl); refine wp_region_float w6.heap.size 3 (Nat.le_refl _) (fun _ => True) trivial Cl.tt (by kernel_rfl) (by simp) ?_
                have HR6 := Lib.hid (HR5.out.below hb_w6)
                have HB6 := Lib.hid (HB5'.out.trans (hb_w6.mono (by simp <;> omega)))
                clear hb_w6
                refine wpI_start [0] ?_; (iterate 1 (first | (refine wpI_off rfl (by kernel_rfl) rfl (fun K hK => ?_); go_simp; refine hK _ ?_; clear hK K) | ((first | apply wpI_step rfl (by kernel_rfl) rfl | apply wpI_on rfl (by kernel_rfl) rfl); (focus (intro W' hS; have hcS := hS.cells.1; have hfS := hS.cells.2; go_simp; (first | done | exact rfl | exact ⟨rfl, Below.refl _ _⟩ | (go_simp; first | done | exact rfl | exact ⟨rfl, Below.refl _ _⟩)))); intro K hK; go_simp; (try go_bits); refine hK _ ?_; clear hK K))); refine wpI_nil ?_
                apply wpF_call (i := 1) rfl (by kernel_rfl) (by kernel_rfl); intro W hF hS; have hcS := hS.1.cells.1; have hfS := hS.1.cells.2; go_simp; (go_at_call 67; refine (of_any 1 _ (by omega) (by omega)).mono ?_; rintro e w7 ⟨hb_w7, v7, rfl, hv7⟩; refine XPost.mk _ (fun W => IsC W v7 1) hb_w7 (hv7) (IsC.cl _ _) ?_); clear hb_w7 hcS hfS hS hF
                intro K hK; go_simp; (try go_bits); refine hK _ ?_; clear hK K
                clear hv7
                apply wpF_call (i := 2) rfl (by kernel_rfl) (by kernel_rfl); intro W hF hS; have hcS := hS.1.cells.1; have hfS := hS.1.cells.2; go_simp; (go_at_call 97; refine (minus_any 400000 _ _ q 1 W ((HR6.out.below hS.1.2).zl HQL.out) (hF.zl (Nat.le_trans (canN_word (by decide)) (by decide))) (by omega)).mono ?_; rintro e w8 ⟨hb_w8, v8, rfl, A8, c8, rfl, hc8, hA8⟩; refine XPost.mk _ (fun W => LAt W A8 (canN (q - 1).natAbs)) hb_w8 (hA8) (LAt.cl _ _) ?_); clear hb_w8 hcS hfS hS hF
                intro K hK; go_simp; (try go_bits); refine hK _ ?_; clear hK K
                have HC8 := Lib.hid hc8
                clear hA8 hc8
                refine wpF_done (by kernel_rfl) ?_
                intro w9 hF_w9 hSG
                have hz_w9 := hSG.1.1
                have hb_w9 := hSG.1.2
                clear hSG
                (with_reducible apply cel2 (b := w.heap.size) hb_w9); (focus ((try simp) <;> omega)); (focus omega); (focus (go_simp; try exact rfl)); (focus (go_simp; try exact rfl)); (focus (intro o; go_simp)); intro cc cc fz hl; (with_reducible apply cel2 (b := w.heap.size + 1) hb_w9); (focus ((try simp) <;> omega)); (focus omega); (focus (go_simp; try exact rfl)); (focus (go_simp; try exact rfl)); (focus (intro o; go_simp)); intro cc cc fz hl; (with_reducible apply cel2 (b := w5.heap.size) hb_w9); (focus ((try simp) <;> omega)); (focus omega); (focus (go_simp; try exact rfl)); (focus (go_simp; try exact rfl)); (focus (intro o; go_simp)); intro cc cc fz hl
                (try simp only [List.drop_succ_cons, List.drop_zero])
                have HB9 := Lib.hid (HB6.out.trans (hb_w9.mono (by omega)))
                have HL9 := Lib.hid hF_w9.2
                clear hb_w9 hF_w9
                go_wp2_with fail
                refine bodyPost_ret (v := .agg #[.bool (decide (q - 1 < 0)), .slice A8 (canN (q - 1).natAbs).length c8]) (by simp only [results, Try.results109]; go_simp) rfl ⟨?_, ?_⟩
                · exact (HB9.out.setCell (by simp <;> omega) _).setCell (by simp <;> omega) _
                · rw [HQ.out]
                  exact ⟨_, rfl, A8, c8, rfl, HC8.out, HL9.out.set2 (by assumption) (by assumption) _ _⟩
end Go.Proofs.Ytkoejgpnlncgaaa
