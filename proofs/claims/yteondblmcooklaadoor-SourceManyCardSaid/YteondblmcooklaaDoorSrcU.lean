/- The walk of SourceMany. -/
import Derived.Test.YteondblmcooklaaDoorSrcT
namespace Go.Proofs.YteondblmcooklaaDoor
open Go Go.RowKit
set_option linter.unusedVariables false
set_option maxHeartbeats 1000000 in
theorem place_any (x n : Int) (h0 : -9223372036854775808 ≤ x) (h1 : x ≤ 9223372036854775807) (hn : 0 < n) (hn2 : n ≤ 1000) (w : World) : Calls Tryd.prog 21 #[.int .i64 x, .int .i64 n] w fun e w' => e = .returned (.int .i64 (plR x n)) ∧ w = w' := by
  obtain ⟨b0, b1⟩ := plR_bd x n hn
  have hm0 := Int.tmod_lt_of_pos x hn
  have hne : ¬ n = 0 := by omega
  unfold plR at *
  by_cases hl : x.tmod n < 0
  · rw [if_pos hl] at *
    go_enter Tryd.func21, Tryd.ntmps21; (try simp only [List.append_eq, List.cons_append, List.nil_append])
    go_wp2_with fail
    go_ret
    refine ⟨?_, rfl⟩
    first | rfl | go_num
  · rw [if_neg hl] at *
    go_enter Tryd.func21, Tryd.ntmps21; (try simp only [List.append_eq, List.cons_append, List.nil_append])
    go_wp2_with fail
    go_ret
    exact ⟨rfl, rfl⟩
theorem string_of_row {w : World} {base k g c : Nat} (h : w.ownsRow base 5 1 (.slice (some ⟨g, 0, none⟩) (8 * k) c) (8 * k) (Lib.byteCells (textD k))) (hk : 0 < k) :
    (convert 50 9 (.slice (some ⟨g, 0, none⟩) (8 * k) c)).run Tryd.prog w = .ok (.string ⟨(textD k).toArray⟩) w := by
  obtain ⟨g', hA, _, _, _, hc⟩ := own_cells h (by omega)
  simp only [Option.some.injEq, Addr.mk.injEq, and_true] at hA
  subst hA
  have := run_convert_bytes_back (P := Tryd.prog) w 50 9 5 ⟨g, 0, none⟩ c (textD k) Tryd.underlying50 Tryd.underlying5 Tryd.underlying9 (fun j hj => by
    rw [show (⟨g, 0, none⟩ : Addr).add j = ⟨g, j, none⟩ by unfold Addr.add; split <;> simp_all]
    refine hc j _ ?_
    unfold Lib.byteCells
    rw [List.getElem?_map, List.getElem?_eq_getElem hj]
    rfl)
  rw [textD_len] at this
  exact this
set_option maxRecDepth 100000 in
set_option maxHeartbeats 4000000 in
theorem many_walk (n cut : Int) (hn0 : -9223372036854775808 ≤ n) (hn1 : n ≤ 9223372036854775807) (hc0 : -9223372036854775808 ≤ cut) (hc1 : cut ≤ 9223372036854775807) (w : World) (ht : Tabs w) :
    Calls Tryd.prog 7 #[.int .i64 n, .int .i64 cut] w fun e w' => e = .returned (.bool true) ∧ Below w.heap.size w w' := by
  obtain ⟨i0, hi, hz0, hz1, hz2⟩ := info_parts byteInfo
  have h3 := ht.three
  have HT := Lib.hid ht
  obtain ⟨p0, p1⟩ := plR_bd n 5 (by omega)
  obtain ⟨q0, q1⟩ := plR_bd cut 25 (by omega)
  obtain ⟨k, hk⟩ : ∃ k : Nat, 398 + plR n 5 = k := ⟨(398 + plR n 5).toNat, by omega⟩
  obtain ⟨c, hc⟩ : ∃ c : Nat, plR cut 25 = c := ⟨(plR cut 25).toNat, by omega⟩
  have P1 := fun (W : World) => by have := place_any n 5 hn0 hn1 (by omega) (by omega) W; rw [show plR n 5 = (k : Int) - 398 by omega] at this; exact this
  have P2 := fun (W : World) => by have := place_any cut 25 hc0 hc1 (by omega) (by omega) W; rw [hc] at this; exact this
  have hk1 : 398 ≤ k := by omega
  have hk2 : k ≤ 402 := by omega
  have hc2 : c < 25 := by omega
  obtain ⟨m1, m2⟩ := many_text k (by omega)
  obtain ⟨t1, t2, t3⟩ := cut_text c hc2
  have hsd : (⟨(textD k).toArray⟩ : ByteArray).size ≤ maxLen := by show (textD k).toArray.size ≤ _; rw [List.size_toArray, textD_len]; unfold maxLen; omega
  obtain ⟨D, hD⟩ : ∃ D : ByteArray, D = ⟨(textD k).toArray⟩ := ⟨_, rfl⟩
  have K9 := fun (W : World) (h : Tabs W) => parse_any D W (by rw [hD]; exact hsd) h
  rw [← hD] at m1 m2
  obtain ⟨⟨L, er, pp⟩, hRD⟩ : ∃ R, R = parseR D := ⟨_, rfl⟩
  rw [← hRD] at m1 m2 K9
  simp only at m1
  have HDD := Lib.hid hD
  have hes : (exA.extract 0 c).size ≤ maxLen := by
    have : (exA.extract 0 c).size ≤ 25 := by rw [ByteArray.size_extract]; have : exA.size = 25 := rfl; omega
    unfold maxLen; omega
  have K14 := fun (W : World) (h : Tabs W) => parse_any (exA.extract 0 c) W hes h
  obtain ⟨⟨L2, er2, pp2⟩, hRE⟩ : ∃ R, R = parseR (exA.extract 0 c) := ⟨_, rfl⟩
  rw [← hRE] at t1 t2 t3 K14
  simp only at t1 t2 t3
  subst t1
  have HM2 := Lib.hid m2
  have HM1 := Lib.hid m1
  have HC2 := Lib.hid t2
  have HC3 := Lib.hid t3
  have KK9 := Lib.hid K9
  have KK14 := Lib.hid K14
  clear ht p0 p1 q0 q1 hk hc m1 m2 t2 t3 hn0 hn1 hc0 hc1 hsd hD hRD hRE hes K9 K14
  go_enter Tryd.func7, Tryd.ntmps7; (try simp only [List.append_eq, List.cons_append, List.nil_append])
  go_wp2_with (first | (go_at_call 8; refine (awake08_any _ HT.out).mono ?_; rintro e w1 ⟨rfl, hb1⟩) | (go_at_call 21; refine (P1 _).mono ?_; rintro e w2 ⟨rfl, rfl⟩))
  have hz1' := hb1.size
  go_loopw [6, 7] (fun v t wr => ∃ j : Nat, j ≤ k ∧ t = .int .i64 j ∧ wr.ownsRow w.heap.size 5 1 v (8 * j) (Lib.byteCells (textD j)) ∧ Below w.heap.size w wr) (fun _ t _ => k - (intOf t).toNat)
  case atStart => exact ⟨0, by omega, rfl, World.ownsRow_nil _ _ _ _, hb1⟩
  case round =>
    obtain ⟨j, hj, rfl, hown, hbr⟩ := hrel
    have hzr := hbr.size
    by_cases hlt : j < k
    · have i1 : (j : Int) < (k : Int) := by omega
      have HB := Lib.hid hbr
      have HO := Lib.hid hown
      clear hbr hown
      go_wp2_with (at_builtin; go_must (refine Lib.wpList_append_own_string _ rfl _ _ 50 9 rfl w.heap.size 5 i0 Tryd.underlying50 Tryd.underlying9 hi hz0 hz1 hz2 _ _ _ rfl HO.out (⟨#[100, 114, 97, 105, 110, 32, 100, 59]⟩ : ByteArray) rfl (by show 8 * j + 8 ≤ _; unfold maxLen; omega) (by show 8 * j + 8 ≤ _; omega) (by omega) ?_))
      intro v' w2 hown' hgrow _
      have hb2 := HB.out.grown hgrow hzr (fun k hk => (HO.out.lt k hk).1)
      have ho2 : w2.ownsRow w.heap.size 5 1 v' (8 * (j + 1)) (Lib.byteCells (textD (j + 1))) := by
        rw [textD_snoc, Lib.byteCells_append]
        exact hown'
      clear hown' hgrow
      go_wp2_with fail
      go_roundw
      case rel => exact ⟨j + 1, by omega, by go_num, ho2, hb2⟩
      case measure => simp [intOf]; omega
    · obtain rfl : j = k := by omega
      obtain ⟨A, cc, rfl⟩ := own_sl hown
      obtain ⟨g, rfl, _, _, _, _⟩ := own_cells hown (by omega)
      have hcv := string_of_row hown (by omega)
      rw [← HDD.out] at hcv
      have HB := Lib.hid hbr
      clear hbr hown
      by_cases hc0 : c = 0
      · subst hc0
        obtain rfl : er2 = 0 := HC2.out rfl
        clear HC2 HC3
        by_cases hk4 : j ≤ 400
        · obtain rfl : er = 0 := HM1.out hk4
          have i2 : ¬ 400 < (j : Int) := by omega
          have i3 : (j : Int) ≤ 400 := by omega
          go_wp2_with (first | (go_at_call 9; have hq := hb2; refine (KK14.out _ (HT.out.below (HB.out.trans (hb2.mono hzr)) h3)).mono ?_; rintro e w3 ⟨hb3, A3, c3, rfl, hx3⟩) | (go_at_call 9; refine (KK9.out _ (HT.out.below HB.out h3)).mono ?_; rintro e w2 ⟨hb2, A2, c2, rfl, hx2⟩; have hz2 := hb2.size) | (go_at_call 21; refine (P2 _).mono ?_; rintro e w2 ⟨rfl, rfl⟩))
          go_ret
          exact ⟨rfl, (HB.out.trans (hb2.mono hzr)).trans (hb3.mono (by omega))⟩
        · have hm := HM2.out (by omega)
          simp only [Prod.mk.injEq] at hm
          obtain ⟨rfl, rfl, rfl⟩ := hm
          have i2 : 400 < (j : Int) := by omega
          have i3 : ¬ (j : Int) ≤ 400 := by omega
          go_wp2_with (first | (go_at_call 9; have hq := hb2; refine (KK14.out _ (HT.out.below (HB.out.trans (hb2.mono hzr)) h3)).mono ?_; rintro e w3 ⟨hb3, A3, c3, rfl, hx3⟩) | (go_at_call 9; refine (KK9.out _ (HT.out.below HB.out h3)).mono ?_; rintro e w2 ⟨hb2, A2, c2, rfl, hx2⟩; have hz2 := hb2.size) | (go_at_call 21; refine (P2 _).mono ?_; rintro e w2 ⟨rfl, rfl⟩))
          go_ret
          exact ⟨rfl, (HB.out.trans (hb2.mono hzr)).trans (hb3.mono (by omega))⟩
      · obtain ⟨rfl, hpp⟩ := HC3.out hc0
        have i4 : ¬ (c : Int) = 0 := by omega
        have i5 : (pp2 : Int) ≤ (c : Int) := by omega
        clear HC2 HC3 hc0
        by_cases hk4 : j ≤ 400
        · obtain rfl : er = 0 := HM1.out hk4
          have i2 : ¬ 400 < (j : Int) := by omega
          have i3 : (j : Int) ≤ 400 := by omega
          go_wp2_with (first | (go_at_call 9; have hq := hb2; refine (KK14.out _ (HT.out.below (HB.out.trans (hb2.mono hzr)) h3)).mono ?_; rintro e w3 ⟨hb3, A3, c3, rfl, hx3⟩) | (go_at_call 9; refine (KK9.out _ (HT.out.below HB.out h3)).mono ?_; rintro e w2 ⟨hb2, A2, c2, rfl, hx2⟩; have hz2 := hb2.size) | (go_at_call 21; refine (P2 _).mono ?_; rintro e w2 ⟨rfl, rfl⟩))
          go_ret
          exact ⟨rfl, (HB.out.trans (hb2.mono hzr)).trans (hb3.mono (by omega))⟩
        · have hm := HM2.out (by omega)
          simp only [Prod.mk.injEq] at hm
          obtain ⟨rfl, rfl, rfl⟩ := hm
          have i2 : 400 < (j : Int) := by omega
          have i3 : ¬ (j : Int) ≤ 400 := by omega
          go_wp2_with (first | (go_at_call 9; have hq := hb2; refine (KK14.out _ (HT.out.below (HB.out.trans (hb2.mono hzr)) h3)).mono ?_; rintro e w3 ⟨hb3, A3, c3, rfl, hx3⟩) | (go_at_call 9; refine (KK9.out _ (HT.out.below HB.out h3)).mono ?_; rintro e w2 ⟨hb2, A2, c2, rfl, hx2⟩; have hz2 := hb2.size) | (go_at_call 21; refine (P2 _).mono ?_; rintro e w2 ⟨rfl, rfl⟩))
          go_ret
          exact ⟨rfl, (HB.out.trans (hb2.mono hzr)).trans (hb3.mono (by omega))⟩
end Go.Proofs.YteondblmcooklaaDoor
