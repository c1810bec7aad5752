/- The contracts of pinballref01.addMag and subMag. -/
import Derived.Test.YtkoejgpnlncgaaaBigC
namespace Go.Proofs.Ytkoejgpnlncgaaa
open Go Go.RowKit
set_option linter.unusedVariables false
/-- The result of a function that hands back limbs worth m, K limbs at most. -/
def MOut (K : Nat) (m : Int) (w : World) (e : Ending) (w' : World) : Prop := Below w.heap.size w w' ∧ ∃ A c l, e = .returned (.slice A l.length c) ∧ l.length ≤ c ∧ Lim l ∧ l.length ≤ K ∧ mv l = m ∧ LAt w' A l
theorem mv_take_getD (l : List Int) (k : Nat) : mv (l.take (k + 1)) = mv (l.take k) + PB k * (l[k]?).getD 0 := by
  rcases Nat.lt_or_ge k l.length with h | h
  · rw [List.getElem?_eq_getElem h]; exact mv_take_succ (List.getElem?_eq_getElem h)
  · rw [List.getElem?_eq_none h, List.take_of_length_le h, List.take_of_length_le (by omega)]; simp
theorem add_step {a b out : List Int} {k : Nat} {cc x y s : Int} (hk : out.length = k) (h : mv out + PB k * cc = mv (a.take k) + mv (b.take k)) (hx : (a[k]?).getD 0 = x) (hy : (b[k]?).getD 0 = y) (hs : s = cc + x + y) :
    mv (out ++ [s % 4294967296]) + PB (k + 1) * (s / 4294967296) = mv (a.take (k + 1)) + mv (b.take (k + 1)) := by
  rw [mv_snoc, hk, PB_succ, mv_take_getD, mv_take_getD, hx, hy]
  have e : s = s % 4294967296 + 4294967296 * (s / 4294967296) := by omega
  have e2 : PB k * s = PB k * (s % 4294967296) + 4294967296 * PB k * (s / 4294967296) := by
    conv => lhs; rw [e]
    rw [Int.mul_add]
    grind
  have e3 : PB k * s = PB k * cc + PB k * x + PB k * y := by rw [hs]; grind
  omega
theorem getD_some {l : List Int} {k : Nat} {x : Int} (h : l[k]? = some x) : (l[k]?).getD 0 = x := by rw [h]; rfl
theorem getD_none {l : List Int} {k : Nat} (h : l.length ≤ k) : (l[k]?).getD 0 = 0 := by rw [List.getElem?_eq_none h]; rfl
set_option maxRecDepth 100000 in
set_option maxHeartbeats 2000000 in
theorem addmag_any (A B : Option Addr) (a b : List Int) (c d : Nat) (w : World) (ha : Lim a) (hb : Lim b) (hn : a.length ≤ 1000000) (hn' : b.length ≤ 1000000) (hA : LAt w A a) (hB : LAt w B b) :
    Calls Try.prog 105 #[.slice A a.length c, .slice B b.length d] w (MOut (max a.length b.length + 1) (mv a + mv b) w) := by
  obtain ⟨M, hM⟩ : ∃ M, M = max a.length b.length := ⟨_, rfl⟩
  rw [← hM]
  have m1 : a.length ≤ M := by omega
  have m2 : b.length ≤ M := by omega
  have m3 : M ≤ 1000000 := by omega
  have m4 : M ≤ a.length ∨ M ≤ b.length := by omega
  have HA := Lib.hid hA
  have HB := Lib.hid hB
  have HLA := Lib.hid ha
  have HLB := Lib.hid hb
  have M4 := Lib.hid m4
  clear hA hB ha hb hM m4
  go_enter Try.func105, Try.ntmps105; (try simp only [List.append_eq, List.cons_append, List.nil_append])
  go_wp2_with fail
  go_loopw [5, 6, 7] (fun v vc vi wr => ∃ (k : Nat) (cc : Int) (out : List Int), k ≤ M + 1 ∧ vi = .int .i64 k ∧ vc = .int .u64 cc ∧ 0 ≤ cc ∧ cc ≤ 1 ∧ (k ≤ M ∨ cc = 0) ∧ OwnL wr w.heap.size v out ∧ Hid (Lim out ∧ out.length = k ∧ mv out + PB k * cc = mv (a.take k) + mv (b.take k)) ∧ Below w.heap.size w wr) (fun _ _ vi _ => (M + 1 - (intOf vi).toNat))
  case atStart => exact ⟨0, 0, [], by omega, rfl, rfl, by omega, by omega, by omega, OwnL.nil _ _, Lib.hid ⟨Lim.nil, rfl, by simp [mv]⟩, Below.refl _ _⟩
  case round =>
    obtain ⟨k, cc, out, hk, rfl, rfl, c0, c1, hkc, hown, HO, hbel⟩ := hrel
    have i1 : (0 : Int) ≤ (k : Int) := by omega
    have i3 : (k : Int) ≤ 1000001 := by omega
    have hz := hbel.size
    have HBE := Lib.hid hbel
    have HOW := Lib.hid hown
    clear hbel hown
    by_cases hka : k < a.length
    · obtain ⟨x, hx⟩ : ∃ x, a[k]? = some x := ⟨a[k], by simp⟩
      obtain ⟨g, o, rfl, hg, hcg⟩ := HA.out.below HBE.out k x hx
      obtain ⟨x0, x1⟩ := HLA.out.get hx
      have Hx := Lib.hid hx
      have j1 : (k : Int) < (a.length : Int) := by omega
      clear hx
      by_cases hkb : k < b.length
      · obtain ⟨y, hx⟩ : ∃ x, b[k]? = some x := ⟨b[k], by simp⟩
        obtain ⟨f, p, rfl, hf, hcf⟩ := HB.out.below HBE.out k y hx
        obtain ⟨y0, y1⟩ := HLB.out.get hx
        have Hy := Lib.hid hx
        have j2 : (k : Int) < (b.length : Int) := by omega
        clear hx
        have HST := Lib.hid (add_step (s := cc + x + y) HO.out.2.1 HO.out.2.2 (getD_some Hx.out) (getD_some Hy.out) (by omega))
        have q1 : 0 ≤ cc + x := by omega
        have q2 : cc + x < 18446744073709551616 := by omega
        have q3 : 0 ≤ cc + x + y := by omega
        have q4 : cc + x + y < 18446744073709551616 := by omega
        have hol : out.length ≤ 1000001 := by have := HO.out.2.1; omega
        go_wp2_with (at_builtin; go_must (refine wpList_append_limbs rfl _ _ rfl w.heap.size _ out rfl (HOW.out.alloc _) (some ⟨wr.heap.size, 0, none⟩) 1 [(cc + x + y) % 4294967296] rfl (lat_one (by simp) (by go_simp)) (by simp; omega) (by simp; omega) ?_))
        intro v1 w1 hown1 hg1
        have HB1 := Lib.hid ((HBE.out.alloc hz _).grown hg1 (by simp; omega) HOW.out.fresh)
        have HO1 := Lib.hid hown1
        clear hg1 hown1
        go_wp2_with fail
        go_roundw
        case rel => exact ⟨k + 1, (cc + x + y) / 4294967296, out ++ [(cc + x + y) % 4294967296], by omega, by go_num, rfl, by omega, by omega, by omega, HO1.out, Lib.hid ⟨HO.out.1.snoc (by omega) (by omega), by rw [List.length_append, HO.out.2.1]; rfl, HST.out⟩, HB1.out⟩
        case measure => simp [intOf]; omega
      · have j2 : ¬ (k : Int) < (b.length : Int) := by omega
        have HST := Lib.hid (add_step (s := cc + x) HO.out.2.1 HO.out.2.2 (getD_some Hx.out) (getD_none (by omega)) (by omega))
        have q1 : 0 ≤ cc + x := by omega
        have q2 : cc + x < 18446744073709551616 := by omega
        have hol : out.length ≤ 1000001 := by have := HO.out.2.1; omega
        go_wp2_with (at_builtin; go_must (refine wpList_append_limbs rfl _ _ rfl w.heap.size _ out rfl (HOW.out.alloc _) (some ⟨wr.heap.size, 0, none⟩) 1 [(cc + x) % 4294967296] rfl (lat_one (by simp) (by go_simp)) (by simp; omega) (by simp; omega) ?_))
        intro v1 w1 hown1 hg1
        have HB1 := Lib.hid ((HBE.out.alloc hz _).grown hg1 (by simp; omega) HOW.out.fresh)
        have HO1 := Lib.hid hown1
        clear hg1 hown1
        go_wp2_with fail
        go_roundw
        case rel => exact ⟨k + 1, (cc + x) / 4294967296, out ++ [(cc + x) % 4294967296], by omega, by go_num, rfl, by omega, by omega, by omega, HO1.out, Lib.hid ⟨HO.out.1.snoc (by omega) (by omega), by rw [List.length_append, HO.out.2.1]; rfl, HST.out⟩, HB1.out⟩
        case measure => simp [intOf]; omega
    · have j1 : ¬ (k : Int) < (a.length : Int) := by omega
      by_cases hkb : k < b.length
      · obtain ⟨y, hx⟩ : ∃ x, b[k]? = some x := ⟨b[k], by simp⟩
        obtain ⟨f, p, rfl, hf, hcf⟩ := HB.out.below HBE.out k y hx
        obtain ⟨y0, y1⟩ := HLB.out.get hx
        have Hy := Lib.hid hx
        have j2 : (k : Int) < (b.length : Int) := by omega
        clear hx
        have HST := Lib.hid (add_step (s := cc + y) HO.out.2.1 HO.out.2.2 (getD_none (by omega)) (getD_some Hy.out) (by omega))
        have q3 : 0 ≤ cc + y := by omega
        have q4 : cc + y < 18446744073709551616 := by omega
        have hol : out.length ≤ 1000001 := by have := HO.out.2.1; omega
        go_wp2_with (at_builtin; go_must (refine wpList_append_limbs rfl _ _ rfl w.heap.size _ out rfl (HOW.out.alloc _) (some ⟨wr.heap.size, 0, none⟩) 1 [(cc + y) % 4294967296] rfl (lat_one (by simp) (by go_simp)) (by simp; omega) (by simp; omega) ?_))
        intro v1 w1 hown1 hg1
        have HB1 := Lib.hid ((HBE.out.alloc hz _).grown hg1 (by simp; omega) HOW.out.fresh)
        have HO1 := Lib.hid hown1
        clear hg1 hown1
        go_wp2_with fail
        go_roundw
        case rel => exact ⟨k + 1, (cc + y) / 4294967296, out ++ [(cc + y) % 4294967296], by omega, by go_num, rfl, by omega, by omega, by omega, HO1.out, Lib.hid ⟨HO.out.1.snoc (by omega) (by omega), by rw [List.length_append, HO.out.2.1]; rfl, HST.out⟩, HB1.out⟩
        case measure => simp [intOf]; omega
      · have j2 : ¬ (k : Int) < (b.length : Int) := by omega
        by_cases hcc : cc = 0
        · subst hcc
          have HF := Lib.hid (show mv out = mv a + mv b by
            have h := HO.out.2.2
            rw [List.take_of_length_le (by omega), List.take_of_length_le (by omega)] at h
            omega)
          have hol : out.length ≤ M + 1 := by have := HO.out.2.1; omega
          obtain ⟨A1, c1, rfl, hc1, _, hA1⟩ := lat_of_own HOW.out
          have HA1 := Lib.hid hA1
          clear hA1
          go_wp2_with fail
          go_ret
          exact ⟨HBE.out, A1, c1, out, rfl, hc1, HO.out.1, hol, HF.out, HA1.out⟩
        · obtain rfl : cc = 1 := by omega
          have HST := Lib.hid (add_step (s := 1) HO.out.2.1 HO.out.2.2 (getD_none (by omega)) (getD_none (by omega)) (by omega))
          have hol : out.length ≤ 1000001 := by have := HO.out.2.1; omega
          go_wp2_with (at_builtin; go_must (refine wpList_append_limbs rfl _ _ rfl w.heap.size _ out rfl (HOW.out.alloc _) (some ⟨wr.heap.size, 0, none⟩) 1 [(1) % 4294967296] rfl (lat_one (by simp) (by go_simp)) (by simp; omega) (by simp; omega) ?_))
          intro v1 w1 hown1 hg1
          have HB1 := Lib.hid ((HBE.out.alloc hz _).grown hg1 (by simp; omega) HOW.out.fresh)
          have HO1 := Lib.hid hown1
          clear hg1 hown1
          go_wp2_with fail
          go_roundw
          case rel => exact ⟨k + 1, (1) / 4294967296, out ++ [(1) % 4294967296], by omega, by go_num, rfl, by omega, by omega, by omega, HO1.out, Lib.hid ⟨HO.out.1.snoc (by omega) (by omega), by rw [List.length_append, HO.out.2.1]; rfl, HST.out⟩, HB1.out⟩
          case measure => simp [intOf]; omega
end Go.Proofs.Ytkoejgpnlncgaaa
