/- The contract of pinballref01.mulMag. -/
import Derived.Test.YtkoejgpnlncgaaaBigB
namespace Go.Proofs.Ytkoejgpnlncgaaa
open Go Go.RowKit
set_option linter.unusedVariables false
/-- The block g holds these limbs, and no others. -/
def RowL (w : World) (g : Nat) (l : List Int) : Prop := w.rowIs g 87 l.length (fun i => .int .u32 (l.getD i 0))
theorem RowL.lt {w : World} {g : Nat} {l : List Int} (h : RowL w g l) : g < w.heap.size := World.rowIs.lt h
theorem RowL.cell {w : World} {g : Nat} {l : List Int} (h : RowL w g l) {i : Nat} {x : Int} (hx : l[i]? = some x) : w.cell? ⟨g, i, none⟩ = some (.int .u32 x) := by
  have hi := (List.getElem?_eq_some_iff.1 hx).1
  have h1 := World.rowIs.cell h hi
  rw [h1, List.getD_eq_getElem?_getD, hx]
  rfl
theorem RowL.frozen {w : World} {g : Nat} {l : List Int} (h : RowL w g l) : ∀ o, w.frozen? ⟨g, o, none⟩ = false := fun o => World.rowIs.frozen h o
theorem RowL.set {w : World} {g : Nat} {l : List Int} (h : RowL w g l) (i : Nat) (x : Int) : RowL (w.setCell ⟨g, i, none⟩ (.int .u32 x)) g (l.set i x) := by
  have h1 := World.rowIs.set h i (.int .u32 x)
  unfold RowL
  rw [List.length_set]
  refine World.rowIs.congr h1 (fun j hj => ?_)
  by_cases e : j = i
  · subst e
    simp [List.getD_eq_getElem?_getD, hj]
  · rw [if_neg e, List.getD_eq_getElem?_getD, List.getD_eq_getElem?_getD, List.getElem?_set, if_neg (fun h => e h.symm)]
theorem RowL.below {w w1 : World} {g : Nat} {l : List Int} (h : RowL w g l) (hb : Below w.heap.size w w1) : RowL w1 g l := World.rowIs.of_block h (hb.block g h.lt)
theorem RowL.lat {w : World} {g : Nat} {l : List Int} (h : RowL w g l) : LAt w (some ⟨g, 0, none⟩) l := fun k x hx => ⟨g, 0, rfl, h.lt, by rw [Nat.zero_add]; exact h.cell hx⟩
theorem RowL.made (w : World) (n : Nat) : RowL (w.alloc (.cells (madeCells #[.int .u32 0] n) 87)) w.heap.size (List.replicate n 0) := by
  have h := World.rowIs_made w (.int .u32 0) n 87
  unfold RowL
  rw [List.length_replicate]
  refine World.rowIs.congr h (fun i hi => ?_)
  simp [List.getD_eq_getElem?_getD, hi]
theorem mul_lim {x y : Int} (x0 : 0 ≤ x) (x1 : x < 4294967296) (y0 : 0 ≤ y) (y1 : y < 4294967296) : 0 ≤ x * y ∧ x * y ≤ 18446744065119617025 := by
  refine ⟨Int.mul_nonneg x0 y0, ?_⟩
  have : x * y ≤ 4294967295 * 4294967295 := Int.mul_le_mul (by omega) (by omega) y0 (by omega)
  omega
theorem mul_step {L b : List Int} {p k : Nat} {c x y z s M : Int} (h : mv L + PB (p + k) * c = M + PB p * x * mv (b.take k)) (hz : L[p + k]? = some z) (hy : b[k]? = some y) (hs : s = c + (z + x * y)) :
    mv (L.set (p + k) (s % 4294967296)) + PB (p + k + 1) * (s / 4294967296) = M + PB p * x * mv (b.take (k + 1)) := by
  rw [mv_set hz, mv_take_succ hy, PB_succ, PB_add] at *
  have e : s = s % 4294967296 + 4294967296 * (s / 4294967296) := by omega
  have e2 : PB p * PB k * s = PB p * PB k * (s % 4294967296) + 4294967296 * (PB p * PB k) * (s / 4294967296) := by
    conv => lhs; rw [e]
    rw [Int.mul_add]
    grind
  have e3 : PB p * PB k * s = PB p * PB k * c + PB p * PB k * z + PB p * PB k * (x * y) := by rw [hs]; grind
  grind
set_option maxRecDepth 100000 in
set_option maxHeartbeats 4000000 in
theorem mulmag_any (A B : Option Addr) (a b : List Int) (c d : Nat) (w : World) (ha : Lim a) (hb : Lim b) (hn : a.length ≤ 1000000) (hn' : b.length ≤ 1000000) (hA : LAt w A a) (hB : LAt w B b) :
    Calls Try.prog 94 #[.slice A a.length c, .slice B b.length d] w (MOut (a.length + b.length) (mv a * mv b) w) := by
  have hmk := fun w => run_make_row' (P := Try.prog) 63 87 (.int .u32 0) 4 Try.underlying63 limbInfo rfl .i64 .i64 (a.length + b.length) (by omega) (by omega) w
  obtain ⟨n, hnn⟩ : ∃ n, n = a.length + b.length := ⟨_, rfl⟩
  rw [Int.natCast_add] at hmk
  rw [← hnn] at hmk ⊢
  have n1 : (n : Int) ≤ 2000000 := by omega
  have HN := Lib.hid hnn
  have HA := Lib.hid hA
  have HB := Lib.hid hB
  have HLA := Lib.hid ha
  have HLB := Lib.hid hb
  clear hA hB ha hb hnn
  go_enter Try.func94, Try.ntmps94; (try simp only [List.append_eq, List.cons_append, List.nil_append])
  go_wp2_with fail
  clear hmk
  have hg0 : w.heap.size < w.heap.size + 1 := by omega
  go_loopw [6, 7, 8] (fun vi _ _ wr => ∃ (p : Nat) (L : List Int), p ≤ a.length ∧ vi = .int .i64 p ∧ RowL wr w.heap.size L ∧ Hid (L.length = n ∧ Lim L ∧ mv L = mv (a.take p) * mv b ∧ ∀ j, p + b.length ≤ j → j < n → L[j]? = some 0) ∧ Below w.heap.size w wr) (fun vi _ _ _ => (a.length - (intOf vi).toNat))
  case atStart => exact ⟨0, List.replicate n 0, by omega, rfl, RowL.made w n, Lib.hid ⟨by simp, Lim.replicate n, by rw [mv_replicate]; simp [mv], fun j _ hj => by simp [hj]⟩, (Below.refl _ _).alloc (Nat.le_refl _) _⟩
  case round =>
    obtain ⟨p, L, hp, rfl, hrow, HO, hbel⟩ := hrel
    obtain ⟨wo, rfl⟩ : ∃ wo : World, wo = wr := ⟨_, rfl⟩
    have i1 : (0 : Int) ≤ (p : Int) := by omega
    have i3 : (p : Int) ≤ 1000000 := by omega
    have HBE := Lib.hid hbel
    have HR := Lib.hid hrow
    clear hbel hrow
    by_cases hpa : p < a.length
    · obtain ⟨x, hx⟩ : ∃ x, a[p]? = some x := ⟨a[p], by simp⟩
      obtain ⟨x0, x1⟩ := HLA.out.get hx
      have HX := Lib.hid hx
      have j1 : (p : Int) < (a.length : Int) := by omega
      clear hx
      obtain ⟨ga, oa, rfl, hga, _⟩ := HA.out p x HX.out
      go_wp2_with fail
      go_loopw [7, 8] (fun vc vk ws => ∃ (k : Nat) (cc : Int) (L' : List Int), k ≤ b.length ∧ vk = .int .i64 k ∧ vc = .int .u64 cc ∧ 0 ≤ cc ∧ cc < 4294967296 ∧ RowL ws w.heap.size L' ∧ Hid (L'.length = n ∧ Lim L' ∧ mv L' + PB (p + k) * cc = mv (a.take p) * mv b + PB p * x * mv (b.take k) ∧ ∀ j, p + b.length ≤ j → j < n → L'[j]? = some 0) ∧ Below w.heap.size w ws) (fun _ vk _ => (b.length - (intOf vk).toNat))
      case atStart => exact ⟨0, 0, L, by omega, rfl, rfl, by omega, by omega, HR.out, Lib.hid ⟨HO.out.1, HO.out.2.1, by rw [HO.out.2.2.1]; simp [mv], HO.out.2.2.2⟩, HBE.out⟩
      case round =>
        obtain ⟨k, cc, L', hk, rfl, rfl, c0, c1, hrow, HO', hbel⟩ := hrel
        obtain ⟨g, o, he, hg, hc1⟩ := HA.out.below hbel p x HX.out
        simp only [Option.some.injEq, Addr.mk.injEq] at he
        obtain ⟨rfl, rfl, _⟩ := he
        have k1 : (0 : Int) ≤ (k : Int) := by omega
        have k2 : (k : Int) ≤ 1000000 := by omega
        have hlt := hrow.lt
        have hfz := hrow.frozen
        have hz := hbel.size
        have HBE2 := Lib.hid hbel
        have HR2 := Lib.hid hrow
        clear hbel hrow
        by_cases hkb : k < b.length
        · obtain ⟨y, hy⟩ : ∃ y, b[k]? = some y := ⟨b[k], by simp⟩
          obtain ⟨gb, ob, rfl, hgb, hc2⟩ := HB.out.below HBE2.out k y hy
          obtain ⟨y0, y1⟩ := HLB.out.get hy
          have hpn : p + k < n := by have := HN.out; omega
          obtain ⟨z, hzz⟩ : ∃ z, L'[p + k]? = some z := ⟨L'[p + k]'(by have := HO'.out.1; omega), by simp⟩
          obtain ⟨z0, z1⟩ := HO'.out.2.1.get hzz
          have hc3 := HR2.out.cell hzz
          have HY := Lib.hid hy
          have HZ := Lib.hid hzz
          have j2 : (k : Int) < (b.length : Int) := by omega
          have j3 : (0 : Int) ≤ (p : Int) + (k : Int) := by omega
          have j4 : (p : Int) + (k : Int) < (n : Int) := by omega
          obtain ⟨q1, q2⟩ := mul_lim x0 x1 y0 y1
          have q3 : 0 ≤ z + x * y := by omega
          have q4 : z + x * y < 18446744073709551616 := by omega
          have q5 : 0 ≤ cc + (z + x * y) := by omega
          have q6 : cc + (z + x * y) < 18446744073709551616 := by omega
          have HST := Lib.hid (mul_step HO'.out.2.2.1 HZ.out HY.out (s := cc + (z + x * y)) rfl)
          clear hy hzz
          go_wp2_with fail
          refine wp_region_warm (Own wr.heap.size wr) (by kernel_rfl) (by kernel_rfl) (Own.refl (Nat.le_refl _)).drew ?_
          repeat (first | (refine wpWarm_step_off rfl (fun K hK => ?_); (go_simp; refine hK _ ?_; clear hK K)) | (apply wpWarm_step rfl; (focus (intro W' hS; have hcS := hS.cells.1; have hfS := hS.cells.2; go_simp; (first | done | exact rfl | exact ⟨rfl, hS⟩ | (go_simp; exact rfl)))); (intro K hK; go_simp; (try go_bits); refine hK _ ?_; clear hK K)) | (apply wpWarm_step_on rfl; (focus (intro W' hS; have hcS := hS.cells.1; have hfS := hS.cells.2; go_simp; (first | done | exact rfl | exact ⟨rfl, hS⟩ | (go_simp; exact rfl)))); (intro K hK; go_simp; (try go_bits); refine hK _ ?_; clear hK K)))
          refine wpWarm_nil ?_
          intro w4 hO
          have HR4 := Lib.hid (HR2.out.below hO.2)
          have hc4 := HR4.out.cell HZ.out
          have hf4 := HR4.out.frozen
          have hl4 := HR4.out.lt
          have HB4 := Lib.hid (HBE2.out.trans (hO.2.mono hz))
          clear hO hfz hc1 hc2 hc3 hlt
          go_wp2_with fail
          go_roundw
          case rel =>
            refine ⟨k + 1, (cc + (z + x * y)) / 4294967296, L'.set (p + k) ((cc + (z + x * y)) % 4294967296), by omega, by go_num, rfl, by omega, by omega, HR4.out.set _ _, Lib.hid ⟨by rw [List.length_set]; exact HO'.out.1, HO'.out.2.1.set _ (by omega) (by omega), HST.out, fun j h1 h2 => ?_⟩, HB4.out.setCell (Nat.le_refl _) _⟩
            rw [List.getElem?_set_ne (by omega)]
            exact HO'.out.2.2.2 j h1 h2
          case measure => simp [intOf]; omega
        · obtain rfl : k = b.length := by omega
          have hpn : p + b.length < n := by have := HN.out; omega
          have hzz := HO'.out.2.2.2 (p + b.length) (Nat.le_refl _) hpn
          have hc3 := HR2.out.cell hzz
          have HZ := Lib.hid hzz
          have j3 : (0 : Int) ≤ (p : Int) + (b.length : Int) := by omega
          have j4 : (p : Int) + (b.length : Int) < (n : Int) := by omega
          have j5 : ¬ (b.length : Int) < (b.length : Int) := by omega
          clear hzz hc1
          go_wp2_with fail
          go_roundw
          case rel =>
            refine ⟨p + 1, L'.set (p + b.length) cc, by omega, by go_num, HR2.out.set _ _, Lib.hid ⟨by rw [List.length_set]; exact HO'.out.1, HO'.out.2.1.set _ (by omega) (by omega), ?_, fun j h1 h2 => ?_⟩, HBE2.out.setCell (Nat.le_refl _) _⟩
            · have h1 := HO'.out.2.2.1
              rw [List.take_length] at h1
              rw [mv_set HZ.out, mv_take_succ HX.out, Int.add_mul, Int.sub_zero]
              rw [← h1]
            · rw [List.getElem?_set_ne (by omega)]
              exact HO'.out.2.2.2 j (by omega) h2
          case measure => simp [intOf]; omega
    · obtain rfl : p = a.length := by omega
      have HF := Lib.hid (show mv L = mv a * mv b by have := HO.out.2.2.1; rwa [List.take_length] at this)
      have HLL := HO.out.1
      have j5 : ¬ (a.length : Int) < (a.length : Int) := by omega
      subst HLL
      go_wp2_with fail
      go_ret
      exact ⟨HBE.out, _, _, L, rfl, Nat.le_refl _, HO.out.2.1, Nat.le_refl _, HF.out, HR.out.lat⟩
end Go.Proofs.Ytkoejgpnlncgaaa
