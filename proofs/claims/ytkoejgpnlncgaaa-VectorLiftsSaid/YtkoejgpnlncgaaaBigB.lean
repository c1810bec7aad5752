/- The contract of pinballref01.subMag. -/
import Derived.Test.YtkoejgpnlncgaaaBigA
namespace Go.Proofs.Ytkoejgpnlncgaaa
open Go Go.RowKit
set_option linter.unusedVariables false
theorem sub_step {a b out : List Int} {k : Nat} {cc x y D : Int} (hk : out.length = k) (h : mv out - PB k * cc = mv (a.take k) - mv (b.take k)) (hx : (a[k]?).getD 0 = x) (hy : (b[k]?).getD 0 = y)
    (hD : D % 4294967296 - 4294967296 * (D / 9223372036854775808) = x - y - cc) :
    mv (out ++ [D % 4294967296]) - PB (k + 1) * (D / 9223372036854775808) = mv (a.take (k + 1)) - mv (b.take (k + 1)) := by
  rw [mv_snoc, hk, PB_succ, mv_take_getD, mv_take_getD, hx, hy]
  have e2 : PB k * (D % 4294967296) - 4294967296 * PB k * (D / 9223372036854775808) = PB k * x - PB k * y - PB k * cc := by
    rw [← Int.mul_sub, ← Int.mul_sub, ← hD, Int.mul_sub]
    grind
  omega
/-- A difference of limbs in a word, with its borrow. -/
theorem word_sub {x y cc I D : Int} (x0 : 0 ≤ x) (x1 : x < 4294967296) (y0 : 0 ≤ y) (y1 : y < 4294967296) (c0 : 0 ≤ cc) (c1 : cc ≤ 1) (hI : I = IntKind.u64.wrap (x - y)) (hD : D = IntKind.u64.wrap (I - cc)) :
    D % 4294967296 - 4294967296 * (D / 9223372036854775808) = x - y - cc ∧ 0 ≤ D ∧ D < 18446744073709551616 ∧ 0 ≤ D / 9223372036854775808 ∧ D / 9223372036854775808 ≤ 1 := by
  rw [IntKind.wrap_u64] at hI hD
  omega
set_option maxRecDepth 100000 in
set_option maxHeartbeats 2000000 in
theorem submag_any (A B : Option Addr) (a b : List Int) (c d : Nat) (w : World) (ha : Lim a) (hb : Lim b) (hn : a.length ≤ 1000000) (hn' : b.length ≤ a.length) (hle : mv b ≤ mv a) (hA : LAt w A a) (hB : LAt w B b) :
    Calls Try.prog 107 #[.slice A a.length c, .slice B b.length d] w (MOut a.length (mv a - mv b) w) := by
  have HA := Lib.hid hA
  have HB := Lib.hid hB
  have HLA := Lib.hid ha
  have HLB := Lib.hid hb
  have HLE := Lib.hid hle
  clear hA hB ha hb hle
  go_enter Try.func107, Try.ntmps107; (try simp only [List.append_eq, List.cons_append, List.nil_append])
  go_wp2_with fail
  go_loopw [5, 6, 7, 8, 9] (fun v vc vi _ _ wr => ∃ (k : Nat) (cc : Int) (out : List Int), k ≤ a.length ∧ vi = .int .i64 k ∧ vc = .int .u64 cc ∧ 0 ≤ cc ∧ cc ≤ 1 ∧ OwnL wr w.heap.size v out ∧ Hid (Lim out ∧ out.length = k ∧ mv out - PB k * cc = mv (a.take k) - mv (b.take k)) ∧ Below w.heap.size w wr) (fun _ _ vi _ _ _ => (a.length - (intOf vi).toNat))
  case atStart => exact ⟨0, 0, [], by omega, rfl, rfl, by omega, by omega, OwnL.nil _ _, Lib.hid ⟨Lim.nil, rfl, by simp [mv]⟩, Below.refl _ _⟩
  case round =>
    obtain ⟨k, cc, out, hk, rfl, rfl, c0, c1, hown, HO, hbel⟩ := hrel
    have i1 : (0 : Int) ≤ (k : Int) := by omega
    have i3 : (k : Int) ≤ 1000000 := by omega
    have hz := hbel.size
    have HBE := Lib.hid hbel
    have HOW := Lib.hid hown
    clear hbel hown
    by_cases hka : k < a.length
    · obtain ⟨x, hx⟩ : ∃ x, a[k]? = some x := ⟨a[k], by simp⟩
      obtain ⟨g, o, rfl, hg, hc1⟩ := HA.out.below HBE.out k x hx
      obtain ⟨x0, x1⟩ := HLA.out.get hx
      have HX := Lib.hid hx
      have j1 : (k : Int) < (a.length : Int) := by omega
      clear hx
      by_cases hkb : k < b.length
      · obtain ⟨y, hy⟩ : ∃ y, b[k]? = some y := ⟨b[k], by simp⟩
        obtain ⟨g', o', rfl, hg', hc2⟩ := HB.out.below HBE.out k y hy
        obtain ⟨y0, y1⟩ := HLB.out.get hy
        have HY := Lib.hid hy
        have j2 : (k : Int) < (b.length : Int) := by omega
        obtain ⟨I, hI⟩ : ∃ I, I = IntKind.u64.wrap (x - y) := ⟨_, rfl⟩
        obtain ⟨D, hD⟩ : ∃ D, D = IntKind.u64.wrap (I - cc) := ⟨_, rfl⟩
        obtain ⟨d1, d2, d3, d4, d5⟩ := word_sub x0 x1 y0 y1 c0 c1 hI hD
        have HST := Lib.hid (sub_step HO.out.2.1 HO.out.2.2 (getD_some HX.out) (getD_some HY.out) d1)
        replace hI := hI.symm
        replace hD := hD.symm
        have hol : out.length ≤ 1000001 := by have := HO.out.2.1; omega
        clear hy d1
        go_wp2_with (at_builtin; go_must (refine wpList_append_limbs rfl _ _ rfl w.heap.size _ out rfl (HOW.out.alloc _) (some ⟨wr.heap.size, 0, none⟩) 1 [D % 4294967296] rfl (lat_one (by simp) (by go_simp)) (by simp; omega) (by simp; omega) ?_))
        intro v1 w1 hown1 hg1
        have HB1 := Lib.hid ((HBE.out.alloc hz _).grown hg1 (by simp; omega) HOW.out.fresh)
        have HO1 := Lib.hid hown1
        clear hg1 hown1 hI hD
        go_wp2_with fail
        go_roundw
        case rel => exact ⟨k + 1, D / 9223372036854775808, out ++ [D % 4294967296], by omega, by go_num, rfl, by omega, by omega, HO1.out, Lib.hid ⟨HO.out.1.snoc (by omega) (by omega), by rw [List.length_append, HO.out.2.1]; rfl, HST.out⟩, HB1.out⟩
        case measure => simp [intOf]; omega
      · have j2 : ¬ (k : Int) < (b.length : Int) := by omega
        obtain ⟨D, hD⟩ : ∃ D, D = IntKind.u64.wrap (x - cc) := ⟨_, rfl⟩
        obtain ⟨d1, d2, d3, d4, d5⟩ := word_sub (y := 0) (I := x) x0 x1 (by omega) (by omega) c0 c1 (by rw [IntKind.wrap_u64]; omega) hD
        have HST := Lib.hid (sub_step HO.out.2.1 HO.out.2.2 (getD_some HX.out) (getD_none (by omega)) d1)
        replace hD := hD.symm
        have hol : out.length ≤ 1000001 := by have := HO.out.2.1; omega
        clear d1
        go_wp2_with (at_builtin; go_must (refine wpList_append_limbs rfl _ _ rfl w.heap.size _ out rfl (HOW.out.alloc _) (some ⟨wr.heap.size, 0, none⟩) 1 [D % 4294967296] rfl (lat_one (by simp) (by go_simp)) (by simp; omega) (by simp; omega) ?_))
        intro v1 w1 hown1 hg1
        have HB1 := Lib.hid ((HBE.out.alloc hz _).grown hg1 (by simp; omega) HOW.out.fresh)
        have HO1 := Lib.hid hown1
        clear hg1 hown1 hD
        go_wp2_with fail
        go_roundw
        case rel => exact ⟨k + 1, D / 9223372036854775808, out ++ [D % 4294967296], by omega, by go_num, rfl, by omega, by omega, HO1.out, Lib.hid ⟨HO.out.1.snoc (by omega) (by omega), by rw [List.length_append, HO.out.2.1]; rfl, HST.out⟩, HB1.out⟩
        case measure => simp [intOf]; omega
    · obtain rfl : k = a.length := by omega
      have HF := Lib.hid (show mv out = mv a - mv b by
        have h := HO.out.2.2
        rw [List.take_of_length_le (by omega), List.take_of_length_le (by omega)] at h
        have h1 := mv_lt HO.out.1
        rw [HO.out.2.1] at h1
        have h2 := HLE.out
        have : cc = 0 ∨ cc = 1 := by omega
        rcases this with rfl | rfl
        · omega
        · omega)
      have hol : out.length ≤ a.length := by have := HO.out.2.1; omega
      obtain ⟨A1, c1, rfl, hc1, _, hA1⟩ := lat_of_own HOW.out
      have HA1 := Lib.hid hA1
      clear hA1
      go_wp2_with fail
      go_ret
      exact ⟨HBE.out, A1, c1, out, rfl, hc1, HO.out.1, hol, HF.out, HA1.out⟩
end Go.Proofs.Ytkoejgpnlncgaaa
