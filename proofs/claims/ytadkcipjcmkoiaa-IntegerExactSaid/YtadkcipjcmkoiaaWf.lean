/- The contracts of wide.shifted, Shl. -/
import Derived.Test.YtadkcipjcmkoiaaWe
import Derived.Test.YtadkcipjcmkoiaaBigDn
namespace Go.Proofs.Ytadkcipjcmkoiaa
open Go Go.RowKit
set_option linter.unusedVariables false
theorem wraps_u32' (n : Int) (h₀ : 0 ≤ n) (h₁ : n < 2 ^ 32) : IntKind.u32.wrap n = n := by rw [IntKind.wrap_u32]; omega
theorem shl_word {x z P : Int} {k : Nat} (hk : k ≤ 31) (hP : P = 2 ^ k) (x0 : 0 ≤ x) (x1 : x < 4294967296) (z0 : 0 ≤ z) (z1 : z < P) :
    IntKind.u64.wrap (x * 2 ^ k) = x * P ∧ 0 ≤ x * P ∧ x * P < 18446744073709551616 ∧ bits .or .u32 z (x * P % 4294967296) = z + x * P % 4294967296 ∧ z + x * P % 4294967296 < 4294967296 ∧ 0 ≤ x * P / 4294967296 ∧ x * P / 4294967296 < P ∧ min k 64 = k := by
  obtain ⟨p0, p1⟩ := pow2_bd hk
  obtain ⟨Q, hQ1, hQ⟩ := pow2_split hk
  rw [← hP] at p0 p1 hQ
  have m1 : x * P ≤ 4294967295 * P := Int.mul_le_mul_of_nonneg_right (by omega) (by omega)
  have m0 : 0 ≤ x * P := Int.mul_nonneg x0 (by omega)
  have e1 : x * P % 4294967296 = P * (x % Q) := by
    rw [hQ, Int.mul_comm x P]
    exact Int.mul_emod_mul_of_pos _ _ (by omega)
  have q1 := Int.emod_lt_of_pos x (show 0 < Q by omega)
  have q0 := Int.emod_nonneg x (show Q ≠ 0 by omega)
  have e2 : P * (x % Q) ≤ P * (Q - 1) := Int.mul_le_mul_of_nonneg_left (by omega) (by omega)
  rw [Int.mul_sub, Int.mul_one, ← hQ, ← e1] at e2
  refine ⟨by rw [← hP, IntKind.wrap_u64]; omega, m0, by omega, ?_, by omega, by omega, by omega, by omega⟩
  refine bits_join_low .u32 32 (by decide) wraps_u32' k z _ z0 (by rw [← hP]; exact z1) (by omega) (by omega) ?_ (by omega)
  rw [e1, ← hP]
  exact Int.mul_emod_right _ _
theorem shl_step {L m : List Int} {W i : Nat} {P x z : Int} (h : mv L = PB W * (mv (m.take i) * P)) (hx : m[i]? = some x) (hz : L[i + W]? = some z) (hz2 : L[i + W + 1]? = some 0) :
    mv ((L.set (i + W) (z + x * P % 4294967296)).set (i + W + 1) (x * P / 4294967296)) = PB W * (mv (m.take (i + 1)) * P) := by
  have h2 : (L.set (i + W) (z + x * P % 4294967296))[i + W + 1]? = some 0 := by rw [List.getElem?_set_ne (by omega)]; exact hz2
  rw [mv_set h2, mv_set hz, mv_take_succ hx, h, PB_succ, PB_add]
  obtain ⟨S, hS⟩ : ∃ S, S = x * P % 4294967296 := ⟨_, rfl⟩
  obtain ⟨T, hT⟩ : ∃ T, T = x * P / 4294967296 := ⟨_, rfl⟩
  rw [← hS, ← hT]
  have e : S = x * P - 4294967296 * T := by omega
  rw [e]
  grind
/-- The result of wide.shifted: n limbs worth m, in a block of its own. -/
def ShOut (n : Nat) (m : Int) (w : World) (e : Ending) (w' : World) : Prop := ∃ L : List Int, e = .returned (.slice (some ⟨w.heap.size, 0, none⟩) n n) ∧ L.length = n ∧ Lim L ∧ mv L = m ∧ RowL w' w.heap.size L ∧ Below w.heap.size w w'
theorem set2_get {L : List Int} {p : Nat} {a b : Int} (hl : p + 1 < L.length) : ((L.set p a).set (p + 1) b)[p + 1]? = some b := by simp [hl]
set_option maxRecDepth 100000 in
set_option maxHeartbeats 4000000 in
theorem wshifted_any (A : Option Addr) (a : List Int) (c k : Nat) (w : World) (ha : Lim a) (hn : a.length ≤ 1000000) (hk : k ≤ 31) (hA : LAt w A a) :
    Calls Try.prog 95 #[.slice A a.length c, .int .i64 k] w (ShOut (a.length + 1) (mv a * 2 ^ k) w) := by
  have hmk := fun w => run_make_row' (P := Try.prog) 22 50 (.int .u32 0) 4 Try.underlying22 limbInfo rfl .i64 .i64 (a.length + 1) (by omega) (by omega) w
  obtain ⟨n, hnn⟩ : ∃ n, n = a.length + 1 := ⟨_, rfl⟩
  have e1 : ((a.length + 1 : Nat) : Int) = (a.length : Int) + 1 := by omega
  rw [e1] at hmk
  clear e1
  rw [← hnn] at hmk ⊢
  have n1 : (n : Int) = a.length + 1 := by omega
  have k0 : (0 : Int) ≤ (k : Int) := by omega
  have k1 : (k : Int) ≤ 31 := by omega
  obtain ⟨P, hP⟩ : ∃ P : Int, P = 2 ^ k := ⟨_, rfl⟩
  rw [← hP]
  have HN := Lib.hid hnn
  have HA := Lib.hid hA
  have HLA := Lib.hid ha
  have HP := Lib.hid hP
  have N1 := Lib.hid n1
  have HP0 := Lib.hid (show 0 < P by have := (pow2_bd hk).1; rw [← hP] at this; omega)
  have HREP := Lib.hid (show (List.replicate n (0 : Int))[0]? = some 0 by rw [List.getElem?_replicate, if_pos (by omega)])
  clear hA ha hnn n1 hP
  go_enter Try.func95, Try.ntmps95; (try simp only [List.append_eq, List.cons_append, List.nil_append])
  go_wp2_with fail
  clear hmk
  have hg0 : w.heap.size < w.heap.size + 1 := by omega
  go_loopw [6, 7, 8, 15] (fun _ _ _ vi wr => ∃ (i : Nat) (L : List Int), i ≤ a.length ∧ vi = .int .i64 i ∧ RowL wr w.heap.size L ∧ Hid (L.length = n ∧ Lim L ∧ mv L = PB 0 * (mv (a.take i) * P) ∧ (∃ z, L[i]? = some z ∧ z < P) ∧ ∀ j, i < j → j < n → L[j]? = some 0) ∧ Below w.heap.size w wr) (fun _ _ _ vi _ => (a.length - (intOf vi).toNat))
  case atStart => exact ⟨0, List.replicate n 0, by omega, rfl, RowL.made w n, Lib.hid ⟨by simp, Lim.replicate n, by rw [mv_replicate]; simp [mv], ⟨0, HREP.out, HP0.out⟩, fun j _ hj => by simp [hj]⟩, (Below.refl _ _).alloc (Nat.le_refl _) _⟩
  case round =>
    obtain ⟨i, L, hi, rfl, hrow, HO, hbel⟩ := hrel
    have i1 : (0 : Int) ≤ (i : Int) := by omega
    have i3 : (i : Int) ≤ 1000000 := by omega
    have hz := hbel.size
    have hlt := hrow.lt
    have hfz := hrow.frozen
    have HBE := Lib.hid hbel
    have HR := Lib.hid hrow
    clear hbel
    by_cases hia : i < a.length
    · obtain ⟨x, hx⟩ : ∃ x, a[i]? = some x := ⟨a[i], by simp⟩
      obtain ⟨g, o, rfl, hg, hcg⟩ := HA.out.below HBE.out i x hx
      obtain ⟨x0, x1⟩ := HLA.out.get hx
      obtain ⟨z, hzz, hzP⟩ := HO.out.2.2.2.1
      obtain ⟨z0, z1⟩ := HO.out.2.1.get hzz
      have hzz2 := HO.out.2.2.2.2 (i + 1) (by omega) (by have := HN.out; omega)
      have hc3 := hrow.cell hzz
      have hc4 := hrow.cell hzz2
      obtain ⟨q1, q2, q3, q4, q5, q6, q7, q8⟩ := shl_word hk HP.out x0 x1 z0 hzP
      have HST := Lib.hid (shl_step (W := 0) HO.out.2.2.1 hx hzz hzz2)
      obtain ⟨S, hS⟩ : ∃ S, S = x * P := ⟨_, rfl⟩
      rw [← hS] at q1 q2 q3 q4 q5 q6 q7 HST
      obtain ⟨T, hT⟩ : ∃ T, T = z + S % 4294967296 := ⟨_, rfl⟩
      rw [← hT] at q4 q5 HST
      have q9 : 0 ≤ T := by omega
      have Q7 := Lib.hid q7
      have q10 : S / 4294967296 < 4294967296 := by omega
      have q11 : S / 4294967296 % 4294967296 = S / 4294967296 := by omega
      have j1 : (i : Int) < (a.length : Int) := by omega
      have j2 : (i : Int) < (n : Int) := by have := HN.out; omega
      have j3 : (i : Int) + 1 < (n : Int) := by have := HN.out; omega
      have HLL := Lib.hid (show i + 1 < L.length by have := HN.out; have := HO.out.1; omega)
      clear hx hzz hzz2 hS hT hrow hzP q7
      go_wp2_with fail
      go_roundw
      case rel => exact ⟨i + 1, (L.set i T).set (i + 1) (S / 4294967296), by omega, by go_num, (HR.out.set _ _).set _ _, Lib.hid ⟨by rw [List.length_set, List.length_set]; exact HO.out.1, (HO.out.2.1.set _ q9 q5).set _ q6 q10, HST.out, ⟨_, set2_get HLL.out, Q7.out⟩, fun j h1 h2 => by rw [List.getElem?_set_ne (by omega), List.getElem?_set_ne (by omega)]; exact HO.out.2.2.2.2 j (by omega) h2⟩, (HBE.out.setCell (Nat.le_refl _) _).setCell (Nat.le_refl _) _⟩
      case measure => simp [intOf]; omega
    · obtain rfl : i = a.length := by omega
      have HF := Lib.hid (show mv L = mv a * P by have := HO.out.2.2.1; rw [List.take_length, PB_zero, Int.one_mul] at this; exact this)
      have j5 : ¬ (a.length : Int) < (a.length : Int) := by omega
      clear hrow
      go_wp2_with fail
      go_ret
      exact ⟨L, rfl, HO.out.1, HO.out.2.1, HF.out, HR.out, HBE.out⟩
set_option maxRecDepth 100000 in
set_option maxHeartbeats 4000000 in
theorem wshl_any (n0 : Nat) (u : Value) (z0 : Int) (wd k : Nat) (w : World) (hu : IsZ w u n0 z0) (hn0 : n0 ≤ 400000) (hk : k ≤ 31) (hW : wd ≤ 400000) :
    Calls Try.prog 58 #[u, .int .i64 (32 * (wd : Int) + (k : Int))] w (ZOut (z0 * (PB wd * 2 ^ k)) w) := by
  have HU := Lib.hid hu
  have la := isZ_len hu
  obtain ⟨p0, A0, c0', l0, rfl⟩ := isZ_val hu
  have hml := fun w' (h : Below w.heap.size w w') => wlimbs_any n0 _ z0 w' (HU.out.below h) (by omega)
  obtain ⟨N, hN⟩ : ∃ N : Int, N = 32 * (wd : Int) + (k : Int) := ⟨_, rfl⟩
  have m0 : 0 ≤ N := by omega
  have m1 : N ≤ 100000000 := by omega
  have nq : N / 32 = (wd : Int) := by omega
  have nr : N % 32 = (k : Int) := by omega
  rw [← hN]
  clear hN hu
  by_cases h00 : z0 = 0
  · have b0 : (((canN z0.natAbs).length : Int) == 0) = true := by rw [h00, show canN (0 : Int).natAbs = [] from canN_zero]; rfl
    have e0 : z0 * (PB wd * 2 ^ k) = 0 := by rw [h00, Int.zero_mul]
    rw [e0]
    have HML := Lib.hid hml
    clear hml e0 h00
    go_enter Try.func58, Try.ntmps58; (try simp only [List.append_eq, List.cons_append, List.nil_append])
    go_wp2_with fail
    -- own blocks: w.heap.size:2, w.heap.size + 1:2
    (go_at_call 77; refine (HML.out _ (by ((with_reducible (repeat (first | exact bR _ _ | refine bS ?_ ?_ _ | refine bA ?_ ?_ _ | refine bD ?_ | refine bT ?_ (by assumption) ?_ | refine bO (by assumption) ?_ ?_))) <;> (first | omega | (simp; done) | (simp <;> omega))))).mono ?_; rintro e w1 ⟨hb_w1, A, c, rfl, hc1, hA1⟩; have hz_w1 := hb_w1.size; (try simp at hz_w1); (with_reducible apply cel2 (b := w.heap.size) hb_w1); (focus ((try simp) <;> omega)); (focus omega); (focus (go_simp; try exact rfl)); (focus (go_simp; try exact rfl)); (focus (intro o; go_simp)); intro cc cc fz hl; (with_reducible apply cel2 (b := w.heap.size + 1) hb_w1); (focus ((try simp) <;> omega)); (focus omega); (focus (go_simp; try exact rfl)); (focus (go_simp; try exact rfl)); (focus (intro o; go_simp)); intro cc cc fz hl)
    clear hc1 hA1
    go_wp2_with fail
    refine bodyPost_ret (v := .agg #[.bool false, .slice none 0 0]) (by simp only [results, Try.results58]; go_simp) rfl ⟨?_, ?_⟩
    · ((with_reducible (repeat (first | exact bR _ _ | refine bS ?_ ?_ _ | refine bA ?_ ?_ _ | refine bD ?_ | refine bT ?_ (by assumption) ?_ | refine bO (by assumption) ?_ ?_))) <;> (first | omega | (simp; done) | (simp <;> omega)))
    · exact ⟨_, rfl, none, 0, by rw [show canN (0 : Int).natAbs = [] from canN_zero]; rfl, by rw [show canN (0 : Int).natAbs = [] from canN_zero]; exact Nat.le_refl _, by rw [show canN (0 : Int).natAbs = [] from canN_zero]; exact LAt.nil _ _⟩
  · have b0 := canN_ne0 (x := z0.natAbs) (by omega)
    obtain ⟨a, ha⟩ : ∃ a, a = canN z0.natAbs := ⟨_, rfl⟩
    have HLA := Lib.hid (show Lim a by rw [ha]; exact canN_lim _)
    obtain ⟨sp, hsp⟩ : ∃ sp, sp = decide (z0 < 0) := ⟨_, rfl⟩
    obtain ⟨P, hP⟩ : ∃ P : Int, P = 2 ^ k := ⟨_, rfl⟩
    have hres : sv sp (PB wd * (mv a * P)) = z0 * (PB wd * 2 ^ k) := by
      have h1 := (sv_natAbs z0).1
      rw [ha, mv_canN, hsp, ← hP]
      conv => rhs; rw [← h1]
      unfold sv
      split <;> grind
    unfold LimOut at hml
    rw [← ha, ← hsp] at hml
    rw [← ha] at la b0
    obtain ⟨Z, hZ⟩ : ∃ Z, Z = z0 * (PB wd * 2 ^ k) := ⟨_, rfl⟩
    rw [← hZ] at hres ⊢
    have hmk := fun w => run_make_row' (P := Try.prog) 22 50 (.int .u32 0) 4 Try.underlying22 limbInfo rfl .i64 .i64 (a.length + wd + 1) (by omega) (by omega) w
    obtain ⟨n, hnn⟩ : ∃ n, n = a.length + wd + 1 := ⟨_, rfl⟩
    have e1 : ((a.length + wd + 1 : Nat) : Int) = (a.length : Int) + (wd : Int) + 1 := by omega
    rw [e1] at hmk
    clear e1
    rw [← hnn] at hmk
    have HRES := Lib.hid hres
    have HML := Lib.hid hml
    have HP := Lib.hid hP
    have HN := Lib.hid hnn
    have HP0 := Lib.hid (show 0 < P by have := (pow2_bd hk).1; rw [← hP] at this; omega)
    have HREP := Lib.hid (show (List.replicate n (0 : Int))[0 + wd]? = some 0 by rw [List.getElem?_replicate, if_pos (by omega)])
    have k0 : (0 : Int) ≤ (k : Int) := by omega
    have k1 : (k : Int) ≤ 31 := by omega
    have w0' : (0 : Int) ≤ (wd : Int) := by omega
    have w1' : (wd : Int) ≤ 400000 := by omega
    clear hml hres hZ hsp ha HU hP hnn h00
    go_enter Try.func58, Try.ntmps58; (try simp only [List.append_eq, List.cons_append, List.nil_append])
    go_wp2_with fail
    -- own blocks: w.heap.size:2, w.heap.size + 1:2
    (go_at_call 77; refine (HML.out _ (by ((with_reducible (repeat (first | exact bR _ _ | refine bS ?_ ?_ _ | refine bA ?_ ?_ _ | refine bD ?_ | refine bT ?_ (by assumption) ?_ | refine bO (by assumption) ?_ ?_))) <;> (first | omega | (simp; done) | (simp <;> omega))))).mono ?_; rintro e w1 ⟨hb_w1, A, c, rfl, hc1, hA1⟩; have hz_w1 := hb_w1.size; (try simp at hz_w1); (with_reducible apply cel2 (b := w.heap.size) hb_w1); (focus ((try simp) <;> omega)); (focus omega); (focus (go_simp; try exact rfl)); (focus (go_simp; try exact rfl)); (focus (intro o; go_simp)); intro cc cc fz hl; (with_reducible apply cel2 (b := w.heap.size + 1) hb_w1); (focus ((try simp) <;> omega)); (focus omega); (focus (go_simp; try exact rfl)); (focus (go_simp; try exact rfl)); (focus (intro o; go_simp)); intro cc cc fz hl)
    have HA := Lib.hid hA1
    have HB1 := Lib.hid (show Below w.heap.size w w1 by ((with_reducible (repeat (first | exact bR _ _ | refine bS ?_ ?_ _ | refine bA ?_ ?_ _ | refine bD ?_ | refine bT ?_ (by assumption) ?_ | refine bO (by assumption) ?_ ?_))) <;> (first | omega | (simp; done) | (simp <;> omega))))
    have hz1 : w.heap.size + 1 + 1 ≤ w1.heap.size := by omega
    clear hc1 hA1 hb_w1 hz_w1
    go_wp2_with fail
    (try rw [nq])
    clear hmk nq nr
    go_loopw [10, 11, 12, 35] (fun _ _ _ vi wr => ∃ (i : Nat) (L : List Int), i ≤ a.length ∧ vi = .int .i64 i ∧ RowL wr w1.heap.size L ∧ Hid (L.length = n ∧ Lim L ∧ mv L = PB wd * (mv (a.take i) * P) ∧ (∃ z, L[i + wd]? = some z ∧ z < P) ∧ ∀ j, i + wd < j → j < n → L[j]? = some 0) ∧ Below w1.heap.size w1 wr) (fun _ _ _ vi _ => (a.length - (intOf vi).toNat))
    case atStart => exact ⟨0, List.replicate n 0, by omega, rfl, RowL.made w1 n, Lib.hid ⟨by simp, Lim.replicate n, by rw [mv_replicate]; simp [mv], ⟨0, HREP.out, HP0.out⟩, fun j _ hj => by simp [hj]⟩, (Below.refl _ _).alloc (Nat.le_refl _) _⟩
    case round =>
      obtain ⟨i, L, hi, rfl, hrow, HO, hbel⟩ := hrel
      have i1 : (0 : Int) ≤ (i : Int) := by omega
      have i3 : (i : Int) ≤ 1000000 := by omega
      have hz := hbel.size
      have hlt := hrow.lt
      have hfz := hrow.frozen
      have HBE := Lib.hid hbel
      have HR := Lib.hid hrow
      by_cases hia : i < a.length
      · obtain ⟨x, hx⟩ : ∃ x, a[i]? = some x := ⟨a[i], by simp⟩
        obtain ⟨g, o, rfl, hg, hcg⟩ := HA.out.below HBE.out i x hx
        obtain ⟨x0, x1⟩ := HLA.out.get hx
        obtain ⟨z, hzz, hzP⟩ := HO.out.2.2.2.1
        obtain ⟨z0, z1⟩ := HO.out.2.1.get hzz
        have hzz2 := HO.out.2.2.2.2 (i + wd + 1) (by omega) (by have := HN.out; omega)
        have hc3 := hrow.cell hzz
        have hc4 := hrow.cell hzz2
        obtain ⟨q1, q2, q3, q4, q5, q6, q7, q8⟩ := shl_word hk HP.out x0 x1 z0 hzP
        have HST := Lib.hid (shl_step HO.out.2.2.1 hx hzz hzz2)
        obtain ⟨S, hS⟩ : ∃ S, S = x * P := ⟨_, rfl⟩
        rw [← hS] at q1 q2 q3 q4 q5 q6 q7 HST
        obtain ⟨T, hT⟩ : ∃ T, T = z + S % 4294967296 := ⟨_, rfl⟩
        rw [← hT] at q4 q5 HST
        have q9 : 0 ≤ T := by omega
        have Q7 := Lib.hid q7
        have q10 : S / 4294967296 < 4294967296 := by omega
        have q11 : S / 4294967296 % 4294967296 = S / 4294967296 := by omega
        have j1 : (i : Int) < (a.length : Int) := by omega
        have j2 : (i : Int) + (wd : Int) < (n : Int) := by have := HN.out; omega
        have j3 : (i : Int) + (wd : Int) + 1 < (n : Int) := by have := HN.out; omega
        have j4 : (0 : Int) ≤ (i : Int) + (wd : Int) := by omega
        have HLL := Lib.hid (show i + wd + 1 < L.length by have := HN.out; have := HO.out.1; omega)
        clear hx hzz hzz2 hS hT hrow hzP q7 hbel
        go_wp2_with fail
        go_roundw
        case rel => exact ⟨i + 1, (L.set (i + wd) T).set (i + wd + 1) (S / 4294967296), by omega, by go_num, (HR.out.set _ _).set _ _, Lib.hid ⟨by rw [List.length_set, List.length_set]; exact HO.out.1, (HO.out.2.1.set _ q9 q5).set _ q6 q10, HST.out, ⟨_, by rw [show i + 1 + wd = i + wd + 1 by omega]; exact set2_get HLL.out, Q7.out⟩, fun j h1 h2 => by rw [List.getElem?_set_ne (by omega), List.getElem?_set_ne (by omega)]; exact HO.out.2.2.2.2 j (by omega) h2⟩, (HBE.out.setCell (Nat.le_refl _) _).setCell (Nat.le_refl _) _⟩
        case measure => simp [intOf]; omega
      · obtain rfl : i = a.length := by omega
        have HF := Lib.hid (show mv L = PB wd * (mv a * P) by have := HO.out.2.2.1; rw [List.take_length] at this; exact this)
        have j5 : ¬ (a.length : Int) < (a.length : Int) := by omega
        have HLL := HO.out.1
        have hmk := fun w' (h : LAt w' (some ⟨w1.heap.size, 0, none⟩) L) => wmade_any sp (some ⟨w1.heap.size, 0, none⟩) L L.length w' HO.out.2.1 h (Nat.le_refl _) (by have := HN.out; omega)
        rw [HF.out, HRES.out, HLL] at hmk
        have HMK := Lib.hid hmk
        have hb_wr := hbel
        (with_reducible apply cel2 (b := w.heap.size) hb_wr); (focus ((try simp) <;> omega)); (focus omega); (focus (go_simp; try exact rfl)); (focus (go_simp; try exact rfl)); (focus (intro o; go_simp)); intro cc cc fz hl; (with_reducible apply cel2 (b := w.heap.size + 1) hb_wr); (focus ((try simp) <;> omega)); (focus omega); (focus (go_simp; try exact rfl)); (focus (go_simp; try exact rfl)); (focus (intro o; go_simp)); intro cc cc fz hl
        clear hmk HLL hrow hbel hb_wr
        go_wp2_with fail
        (go_at_call 76; refine (HMK.out _ HR.out.lat).mono ?_; rintro e w3 ⟨hb_w3, v4, rfl, A4, c4, rfl, hc4, hA4⟩; have hz_w3 := hb_w3.size; (try simp at hz_w3); (with_reducible apply cel2 (b := w.heap.size) hb_w3); (focus ((try simp) <;> omega)); (focus omega); (focus (go_simp; try exact rfl)); (focus (go_simp; try exact rfl)); (focus (intro o; go_simp)); intro cc cc fz hl; (with_reducible apply cel2 (b := w.heap.size + 1) hb_w3); (focus ((try simp) <;> omega)); (focus omega); (focus (go_simp; try exact rfl)); (focus (go_simp; try exact rfl)); (focus (intro o; go_simp)); intro cc cc fz hl)
        have HC4 := Lib.hid hc4
        have HA4 := Lib.hid hA4
        clear hA4 hc4
        go_wp2_with fail
        refine bodyPost_ret (v := .agg #[.bool (decide (Z < 0)), .slice A4 (canN Z.natAbs).length c4]) (by simp only [results, Try.results58]; go_simp) rfl ⟨?_, ?_⟩
        · exact (HB1.out.trans (HBE.out.mono (by omega))).trans (by ((with_reducible (repeat (first | exact bR _ _ | refine bS ?_ ?_ _ | refine bA ?_ ?_ _ | refine bD ?_ | refine bT ?_ (by assumption) ?_ | refine bO (by assumption) ?_ ?_))) <;> (first | omega | (simp; done) | (simp <;> omega))))
        · exact ⟨_, rfl, A4, c4, rfl, HC4.out, HA4.out.set2 (by assumption) (by assumption) _ _⟩
end Go.Proofs.Ytadkcipjcmkoiaa
