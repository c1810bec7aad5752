/- The contracts of wide.addLimbs, subLimbs. -/
import Derived.Test.YtadkcipjcmkoiaaWb
import Derived.Test.YtadkcipjcmkoiaaBigMul
namespace Go.Proofs.Ytadkcipjcmkoiaa
open Go Go.RowKit
set_option linter.unusedVariables false
theorem take_set_succ {l : List Int} {k : Nat} (x : Int) (h : k < l.length) : (l.set k x).take (k + 1) = l.take k ++ [x] := by
  have h1 : (l.set k x)[k]? = some x := by simp [h]
  rw [take_snocI h1, List.take_set_of_le (Nat.le_refl _)]
theorem word_sub2 {x y cc I D : Int} (x0 : 0 ≤ x) (x1 : x < 4294967296) (y0 : 0 ≤ y) (y1 : y < 4294967296) (c0 : 0 ≤ cc) (c1 : cc ≤ 1) (hI : I = IntKind.u64.wrap (x - cc)) (hD : D = IntKind.u64.wrap (I - y)) :
    D % 4294967296 - 4294967296 * (D / 9223372036854775808) = x - y - cc ∧ 0 ≤ D ∧ D < 18446744073709551616 ∧ 0 ≤ D / 9223372036854775808 ∧ D / 9223372036854775808 ≤ 1 := by
  rw [IntKind.wrap_u64] at hI hD
  omega
set_option maxRecDepth 100000 in
set_option maxHeartbeats 2000000 in
theorem waddl_le (A B : Option Addr) (a b : List Int) (c d : Nat) (w : World) (ha : Lim a) (hb : Lim b) (hn : a.length ≤ 1000000) (hn1 : b.length ≤ a.length) (hA : LAt w A a) (hB : LAt w B b) :
    Calls Try.prog 82 #[.slice A a.length c, .slice B b.length d] w (MOut (a.length + 1) (mv a + mv b) w) := by
  have hmk := fun w => run_make_row' (P := Try.prog) 22 50 (.int .u32 0) 4 Try.underlying22 limbInfo rfl .i64 .i64 (a.length + 1) (by omega) (by omega) w
  obtain ⟨n, hnn⟩ : ∃ n, n = a.length + 1 := ⟨_, rfl⟩
  have e1 : ((a.length + 1 : Nat) : Int) = (a.length : Int) + 1 := by omega
  rw [e1] at hmk
  clear e1
  rw [← hnn] at hmk ⊢
  have n1 : (n : Int) = a.length + 1 := by omega
  have hle : b.length ≤ a.length := by omega
  have s0 : ¬ (a.length : Int) < (b.length : Int) := by omega
  have HN := Lib.hid hnn
  have HA := Lib.hid hA
  have HB := Lib.hid hB
  have HLA := Lib.hid ha
  have HLB := Lib.hid hb
  have N1 := Lib.hid n1
  clear hA hB ha hb hnn n1
  go_enter Try.func82, Try.ntmps82; (try simp only [List.append_eq, List.cons_append, List.nil_append])
  go_wp2_with fail
  clear hmk
  have hg0 : w.heap.size < w.heap.size + 1 := by omega
  go_loopw [6, 7, 8, 22] (fun vc _ _ vi wr => ∃ (k : Nat) (cc : Int) (L : List Int), k ≤ a.length ∧ vi = .int .i64 k ∧ vc = .int .u64 cc ∧ 0 ≤ cc ∧ cc ≤ 1 ∧ RowL wr w.heap.size L ∧ Hid (L.length = n ∧ Lim L ∧ mv (L.take k) + PB k * cc = mv (a.take k) + mv (b.take k)) ∧ Below w.heap.size w wr) (fun _ _ _ vi _ => (a.length - (intOf vi).toNat))
  case atStart => exact ⟨0, 0, List.replicate n 0, by omega, rfl, rfl, by omega, by omega, RowL.made w n, Lib.hid ⟨by simp, Lim.replicate n, by simp [mv]⟩, (Below.refl _ _).alloc (Nat.le_refl _) _⟩
  case round =>
    obtain ⟨k, cc, L, hk, rfl, rfl, c0, c1, hrow, HO, hbel⟩ := hrel
    have i1 : (0 : Int) ≤ (k : Int) := by omega
    have i3 : (k : Int) ≤ 1000000 := by omega
    have hz := hbel.size
    have hlt := hrow.lt
    have hfz := hrow.frozen
    have HBE := Lib.hid hbel
    have HR := Lib.hid hrow
    have hkn : k < n := by have := HN.out; omega
    have HKL := Lib.hid (show k < L.length by have := HO.out.1; omega)
    obtain ⟨z, hzz⟩ : ∃ z, L[k]? = some z := ⟨L[k]'HKL.out, by simp⟩
    have hc3 := hrow.cell hzz
    have j4 : (k : Int) < (n : Int) := by omega
    clear hbel hrow hzz
    by_cases hka : k < a.length
    · obtain ⟨x, hx⟩ : ∃ x, a[k]? = some x := ⟨a[k], by simp⟩
      obtain ⟨g, o, rfl, hg, hcg⟩ := HA.out.below HBE.out k x hx
      obtain ⟨x0, x1⟩ := HLA.out.get hx
      have Hx := Lib.hid hx
      have j1 : (k : Int) < (a.length : Int) := by omega
      clear hx
      have q1 : 0 ≤ x + cc := by omega
      have q2 : x + cc < 18446744073709551616 := by omega
      by_cases hkb : k < b.length
      · obtain ⟨y, hx⟩ : ∃ x, b[k]? = some x := ⟨b[k], by simp⟩
        obtain ⟨f, p, rfl, hf, hcf⟩ := HB.out.below HBE.out k y hx
        obtain ⟨y0, y1⟩ := HLB.out.get hx
        have Hy := Lib.hid hx
        have j2 : (k : Int) < (b.length : Int) := by omega
        clear hx
        have HST := Lib.hid (add_step (s := x + cc + y) (by rw [List.length_take]; have := HKL.out; omega) HO.out.2.2 (getD_some Hx.out) (getD_some Hy.out) (by omega))
        have q3 : 0 ≤ x + cc + y := by omega
        have q4 : x + cc + y < 18446744073709551616 := by omega
        go_wp2_with fail
        go_roundw
        case rel => exact ⟨k + 1, (x + cc + y) / 4294967296, L.set k ((x + cc + y) % 4294967296), by omega, by go_num, rfl, by omega, by omega, HR.out.set _ _, Lib.hid ⟨by rw [List.length_set]; exact HO.out.1, HO.out.2.1.set _ (by omega) (by omega), by rw [take_set_succ _ HKL.out]; exact HST.out⟩, HBE.out.setCell (Nat.le_refl _) _⟩
        case measure => simp [intOf]; omega
      · have j2 : ¬ (k : Int) < (b.length : Int) := by omega
        have HST := Lib.hid (add_step (s := x + cc) (by rw [List.length_take]; have := HKL.out; omega) HO.out.2.2 (getD_some Hx.out) (getD_none (by omega)) (by omega))
        go_wp2_with fail
        go_roundw
        case rel => exact ⟨k + 1, (x + cc) / 4294967296, L.set k ((x + cc) % 4294967296), by omega, by go_num, rfl, by omega, by omega, HR.out.set _ _, Lib.hid ⟨by rw [List.length_set]; exact HO.out.1, HO.out.2.1.set _ (by omega) (by omega), by rw [take_set_succ _ HKL.out]; exact HST.out⟩, HBE.out.setCell (Nat.le_refl _) _⟩
        case measure => simp [intOf]; omega
    · obtain rfl : k = a.length := by omega
      have HF := Lib.hid (show mv (L.set a.length cc) = mv a + mv b by
        have h1 := HO.out.2.2
        rw [List.take_of_length_le (l := a) (Nat.le_refl _), List.take_of_length_le (l := b) (by omega)] at h1
        have h2 := take_set_succ cc HKL.out
        have h3 := HO.out.1
        rw [List.take_of_length_le (by rw [List.length_set]; have := HN.out; omega)] at h2
        rw [h2, mv_snoc, List.length_take, Nat.min_eq_left (by have := HN.out; omega)]
        exact h1)
      have HLL := HO.out.1
      have j5 : ¬ (a.length : Int) < (a.length : Int) := by omega
      subst HLL
      have e0 : cc % 4294967296 = cc := by omega
      go_wp2_with fail
      go_ret
      refine ⟨HBE.out.setCell (Nat.le_refl _) _, some ⟨w.heap.size, 0, none⟩, L.length, L.set a.length cc, by rw [List.length_set]; rfl, by rw [List.length_set]; exact Nat.le_refl _, HO.out.2.1.set _ (by omega) (by omega), by rw [List.length_set]; exact Nat.le_refl _, HF.out, (HR.out.set _ _).lat⟩
set_option maxRecDepth 100000 in
set_option maxHeartbeats 2000000 in
theorem waddl_gt (A B : Option Addr) (a b : List Int) (c d : Nat) (w : World) (ha : Lim a) (hb : Lim b) (hn : a.length ≤ 1000000) (hn1 : b.length < a.length) (hA : LAt w A a) (hB : LAt w B b) :
    Calls Try.prog 82 #[.slice B b.length d, .slice A a.length c] w (MOut (a.length + 1) (mv a + mv b) w) := by
  have hmk := fun w => run_make_row' (P := Try.prog) 22 50 (.int .u32 0) 4 Try.underlying22 limbInfo rfl .i64 .i64 (a.length + 1) (by omega) (by omega) w
  obtain ⟨n, hnn⟩ : ∃ n, n = a.length + 1 := ⟨_, rfl⟩
  have e1 : ((a.length + 1 : Nat) : Int) = (a.length : Int) + 1 := by omega
  rw [e1] at hmk
  clear e1
  rw [← hnn] at hmk ⊢
  have n1 : (n : Int) = a.length + 1 := by omega
  have hle : b.length ≤ a.length := by omega
  have s0 : (b.length : Int) < (a.length : Int) := by omega
  have HN := Lib.hid hnn
  have HA := Lib.hid hA
  have HB := Lib.hid hB
  have HLA := Lib.hid ha
  have HLB := Lib.hid hb
  have N1 := Lib.hid n1
  clear hA hB ha hb hnn n1
  go_enter Try.func82, Try.ntmps82; (try simp only [List.append_eq, List.cons_append, List.nil_append])
  go_wp2_with fail
  clear hmk
  have hg0 : w.heap.size < w.heap.size + 1 := by omega
  go_loopw [6, 7, 8, 22] (fun vc _ _ vi wr => ∃ (k : Nat) (cc : Int) (L : List Int), k ≤ a.length ∧ vi = .int .i64 k ∧ vc = .int .u64 cc ∧ 0 ≤ cc ∧ cc ≤ 1 ∧ RowL wr w.heap.size L ∧ Hid (L.length = n ∧ Lim L ∧ mv (L.take k) + PB k * cc = mv (a.take k) + mv (b.take k)) ∧ Below w.heap.size w wr) (fun _ _ _ vi _ => (a.length - (intOf vi).toNat))
  case atStart => exact ⟨0, 0, List.replicate n 0, by omega, rfl, rfl, by omega, by omega, RowL.made w n, Lib.hid ⟨by simp, Lim.replicate n, by simp [mv]⟩, (Below.refl _ _).alloc (Nat.le_refl _) _⟩
  case round =>
    obtain ⟨k, cc, L, hk, rfl, rfl, c0, c1, hrow, HO, hbel⟩ := hrel
    have i1 : (0 : Int) ≤ (k : Int) := by omega
    have i3 : (k : Int) ≤ 1000000 := by omega
    have hz := hbel.size
    have hlt := hrow.lt
    have hfz := hrow.frozen
    have HBE := Lib.hid hbel
    have HR := Lib.hid hrow
    have hkn : k < n := by have := HN.out; omega
    have HKL := Lib.hid (show k < L.length by have := HO.out.1; omega)
    obtain ⟨z, hzz⟩ : ∃ z, L[k]? = some z := ⟨L[k]'HKL.out, by simp⟩
    have hc3 := hrow.cell hzz
    have j4 : (k : Int) < (n : Int) := by omega
    clear hbel hrow hzz
    by_cases hka : k < a.length
    · obtain ⟨x, hx⟩ : ∃ x, a[k]? = some x := ⟨a[k], by simp⟩
      obtain ⟨g, o, rfl, hg, hcg⟩ := HA.out.below HBE.out k x hx
      obtain ⟨x0, x1⟩ := HLA.out.get hx
      have Hx := Lib.hid hx
      have j1 : (k : Int) < (a.length : Int) := by omega
      clear hx
      have q1 : 0 ≤ x + cc := by omega
      have q2 : x + cc < 18446744073709551616 := by omega
      by_cases hkb : k < b.length
      · obtain ⟨y, hx⟩ : ∃ x, b[k]? = some x := ⟨b[k], by simp⟩
        obtain ⟨f, p, rfl, hf, hcf⟩ := HB.out.below HBE.out k y hx
        obtain ⟨y0, y1⟩ := HLB.out.get hx
        have Hy := Lib.hid hx
        have j2 : (k : Int) < (b.length : Int) := by omega
        clear hx
        have HST := Lib.hid (add_step (s := x + cc + y) (by rw [List.length_take]; have := HKL.out; omega) HO.out.2.2 (getD_some Hx.out) (getD_some Hy.out) (by omega))
        have q3 : 0 ≤ x + cc + y := by omega
        have q4 : x + cc + y < 18446744073709551616 := by omega
        go_wp2_with fail
        go_roundw
        case rel => exact ⟨k + 1, (x + cc + y) / 4294967296, L.set k ((x + cc + y) % 4294967296), by omega, by go_num, rfl, by omega, by omega, HR.out.set _ _, Lib.hid ⟨by rw [List.length_set]; exact HO.out.1, HO.out.2.1.set _ (by omega) (by omega), by rw [take_set_succ _ HKL.out]; exact HST.out⟩, HBE.out.setCell (Nat.le_refl _) _⟩
        case measure => simp [intOf]; omega
      · have j2 : ¬ (k : Int) < (b.length : Int) := by omega
        have HST := Lib.hid (add_step (s := x + cc) (by rw [List.length_take]; have := HKL.out; omega) HO.out.2.2 (getD_some Hx.out) (getD_none (by omega)) (by omega))
        go_wp2_with fail
        go_roundw
        case rel => exact ⟨k + 1, (x + cc) / 4294967296, L.set k ((x + cc) % 4294967296), by omega, by go_num, rfl, by omega, by omega, HR.out.set _ _, Lib.hid ⟨by rw [List.length_set]; exact HO.out.1, HO.out.2.1.set _ (by omega) (by omega), by rw [take_set_succ _ HKL.out]; exact HST.out⟩, HBE.out.setCell (Nat.le_refl _) _⟩
        case measure => simp [intOf]; omega
    · obtain rfl : k = a.length := by omega
      have HF := Lib.hid (show mv (L.set a.length cc) = mv a + mv b by
        have h1 := HO.out.2.2
        rw [List.take_of_length_le (l := a) (Nat.le_refl _), List.take_of_length_le (l := b) (by omega)] at h1
        have h2 := take_set_succ cc HKL.out
        have h3 := HO.out.1
        rw [List.take_of_length_le (by rw [List.length_set]; have := HN.out; omega)] at h2
        rw [h2, mv_snoc, List.length_take, Nat.min_eq_left (by have := HN.out; omega)]
        exact h1)
      have HLL := HO.out.1
      have j5 : ¬ (a.length : Int) < (a.length : Int) := by omega
      subst HLL
      have e0 : cc % 4294967296 = cc := by omega
      go_wp2_with fail
      go_ret
      refine ⟨HBE.out.setCell (Nat.le_refl _) _, some ⟨w.heap.size, 0, none⟩, L.length, L.set a.length cc, by rw [List.length_set]; rfl, by rw [List.length_set]; exact Nat.le_refl _, HO.out.2.1.set _ (by omega) (by omega), by rw [List.length_set]; exact Nat.le_refl _, HF.out, (HR.out.set _ _).lat⟩
set_option maxRecDepth 100000 in
set_option maxHeartbeats 2000000 in
theorem wsubl_any (A B : Option Addr) (a b : List Int) (c d : Nat) (w : World) (ha : Lim a) (hb : Lim b) (hn : a.length ≤ 1000000) (hn' : b.length ≤ a.length) (hle : mv b ≤ mv a) (hA : LAt w A a) (hB : LAt w B b) :
    Calls Try.prog 93 #[.slice A a.length c, .slice B b.length d] w (MOut a.length (mv a - mv b) w) := by
  have hmk := fun w => run_make_row' (P := Try.prog) 22 50 (.int .u32 0) 4 Try.underlying22 limbInfo rfl .i64 .i64 a.length (by omega) (by omega) w
  have HA := Lib.hid hA
  have HB := Lib.hid hB
  have HLA := Lib.hid ha
  have HLB := Lib.hid hb
  have HLE := Lib.hid hle
  clear hA hB ha hb hle
  go_enter Try.func93, Try.ntmps93; (try simp only [List.append_eq, List.cons_append, List.nil_append])
  go_wp2_with fail
  clear hmk
  have hg0 : w.heap.size < w.heap.size + 1 := by omega
  go_loopw [6, 7, 8, 14] (fun vc _ _ vi wr => ∃ (k : Nat) (cc : Int) (L : List Int), k ≤ a.length ∧ vi = .int .i64 k ∧ vc = .int .u64 cc ∧ 0 ≤ cc ∧ cc ≤ 1 ∧ RowL wr w.heap.size L ∧ Hid (L.length = a.length ∧ Lim L ∧ mv (L.take k) - PB k * cc = mv (a.take k) - mv (b.take k)) ∧ Below w.heap.size w wr) (fun _ _ _ vi _ => (a.length - (intOf vi).toNat))
  case atStart => exact ⟨0, 0, List.replicate a.length 0, by omega, rfl, rfl, by omega, by omega, RowL.made w a.length, Lib.hid ⟨by simp, Lim.replicate _, by simp [mv]⟩, (Below.refl _ _).alloc (Nat.le_refl _) _⟩
  case round =>
    obtain ⟨k, cc, L, hk, rfl, rfl, c0, c1, hrow, HO, hbel⟩ := hrel
    have i1 : (0 : Int) ≤ (k : Int) := by omega
    have i3 : (k : Int) ≤ 1000000 := by omega
    have hz := hbel.size
    have hlt := hrow.lt
    have hfz := hrow.frozen
    have HBE := Lib.hid hbel
    have HR := Lib.hid hrow
    clear hbel
    by_cases hka : k < a.length
    · have HKL := Lib.hid (show k < L.length by have := HO.out.1; omega)
      obtain ⟨z, hzz⟩ : ∃ z, L[k]? = some z := ⟨L[k]'HKL.out, by simp⟩
      have hc3 := hrow.cell hzz
      obtain ⟨x, hx⟩ : ∃ x, a[k]? = some x := ⟨a[k], by simp⟩
      obtain ⟨g, o, rfl, hg, hcg⟩ := HA.out.below HBE.out k x hx
      obtain ⟨x0, x1⟩ := HLA.out.get hx
      have Hx := Lib.hid hx
      have j1 : (k : Int) < (a.length : Int) := by omega
      clear hx hzz hrow
      by_cases hkb : k < b.length
      · obtain ⟨y, hx⟩ : ∃ x, b[k]? = some x := ⟨b[k], by simp⟩
        obtain ⟨f, p, rfl, hf, hcf⟩ := HB.out.below HBE.out k y hx
        obtain ⟨y0, y1⟩ := HLB.out.get hx
        have Hy := Lib.hid hx
        have j2 : (k : Int) < (b.length : Int) := by omega
        clear hx
        obtain ⟨I, hI⟩ : ∃ I, I = IntKind.u64.wrap (x - cc) := ⟨_, rfl⟩
        obtain ⟨D, hD⟩ : ∃ D, D = IntKind.u64.wrap (I - y) := ⟨_, rfl⟩
        obtain ⟨d1, d2, d3, d4, d5⟩ := word_sub2 x0 x1 y0 y1 c0 c1 hI hD
        have HST := Lib.hid (sub_step (by rw [List.length_take]; have := HKL.out; omega) HO.out.2.2 (getD_some Hx.out) (getD_some Hy.out) d1)
        replace hI := hI.symm
        replace hD := hD.symm
        clear d1
        go_wp2_with fail
        go_roundw
        case rel => exact ⟨k + 1, D / 9223372036854775808, L.set k (D % 4294967296), by omega, by go_num, rfl, by omega, by omega, HR.out.set _ _, Lib.hid ⟨by rw [List.length_set]; exact HO.out.1, HO.out.2.1.set _ (by omega) (by omega), by rw [take_set_succ _ HKL.out]; exact HST.out⟩, HBE.out.setCell (Nat.le_refl _) _⟩
        case measure => simp [intOf]; omega
      · have j2 : ¬ (k : Int) < (b.length : Int) := by omega
        obtain ⟨D, hD⟩ : ∃ D, D = IntKind.u64.wrap (x - cc) := ⟨_, rfl⟩
        obtain ⟨d1, d2, d3, d4, d5⟩ := word_sub (y := 0) (I := x) x0 x1 (by omega) (by omega) c0 c1 (by rw [IntKind.wrap_u64]; omega) hD
        have HST := Lib.hid (sub_step (by rw [List.length_take]; have := HKL.out; omega) HO.out.2.2 (getD_some Hx.out) (getD_none (by omega)) d1)
        replace hD := hD.symm
        clear d1
        go_wp2_with fail
        go_roundw
        case rel => exact ⟨k + 1, D / 9223372036854775808, L.set k (D % 4294967296), by omega, by go_num, rfl, by omega, by omega, HR.out.set _ _, Lib.hid ⟨by rw [List.length_set]; exact HO.out.1, HO.out.2.1.set _ (by omega) (by omega), by rw [take_set_succ _ HKL.out]; exact HST.out⟩, HBE.out.setCell (Nat.le_refl _) _⟩
        case measure => simp [intOf]; omega
    · obtain rfl : k = a.length := by omega
      have HF := Lib.hid (show mv L = mv a - mv b by
        have h := HO.out.2.2
        have hl := HO.out.1
        rw [List.take_of_length_le (Nat.le_refl _), List.take_of_length_le (by omega), List.take_of_length_le (by omega)] at h
        have h1 := mv_lt HO.out.2.1
        rw [hl] at h1
        have h2 := HLE.out
        have : cc = 0 ∨ cc = 1 := by omega
        rcases this with rfl | rfl
        · omega
        · omega)
      have HLL := HO.out.1
      have j5 : ¬ (a.length : Int) < (a.length : Int) := by omega
      have HLL2 := Lib.hid HLL
      clear HLL hrow
      go_wp2_with fail
      go_ret
      exact ⟨HBE.out, some ⟨w.heap.size, 0, none⟩, a.length, L, by rw [HLL2.out]; rfl, by rw [HLL2.out]; exact Nat.le_refl _, HO.out.2.1, by rw [HLL2.out]; exact Nat.le_refl _, HF.out, HR.out.lat⟩
theorem waddl_any (A B : Option Addr) (a b : List Int) (c d : Nat) (w : World) (ha : Lim a) (hb : Lim b) (hn : a.length ≤ 1000000) (hn' : b.length ≤ 1000000) (hA : LAt w A a) (hB : LAt w B b) :
    Calls Try.prog 82 #[.slice A a.length c, .slice B b.length d] w (MOut (max a.length b.length + 1) (mv a + mv b) w) := by
  rcases Nat.lt_or_ge a.length b.length with h | h
  · have := waddl_gt B A b a d c w hb ha hn' h hB hA
    rw [Nat.max_eq_right (Nat.le_of_lt h), Int.add_comm]
    exact this
  · have := waddl_le A B a b c d w ha hb hn h hA hB
    rw [Nat.max_eq_left h]
    exact this
end Go.Proofs.Ytadkcipjcmkoiaa
