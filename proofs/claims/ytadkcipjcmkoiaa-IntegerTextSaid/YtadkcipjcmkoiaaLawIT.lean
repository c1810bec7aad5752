/- Law IntegerText returns true for every text and every integer. No conditions. -/
import Derived.Test.YtadkcipjcmkoiaaSm
import Derived.Test.YtadkcipjcmkoiaaRe
import Derived.ShutString
namespace Go.Proofs.Ytadkcipjcmkoiaa.lawIT
open Go.ChangeShapes Go.WideShapes Go.ChangeAt Go.RowKit
open Go.ChangeMaps (open_string shut_string)
set_option linter.unusedVariables false
set_option maxRecDepth 100000 in
set_option maxHeartbeats 2000000 in
theorem long (s : ByteArray) (p1 : Bool) (A1 : Option Addr) (n1 c1 : Nat) (w : World) (h : ¬ (s.size ≤ 4000 ∧ n1 ≤ 40)) (h0 : s.size ≤ maxLen) (h1 : n1 ≤ maxLen) :
    Calls Try.prog 3 #[.string s, .agg #[.bool p1, .slice A1 n1 c1]] w fun e w' => e = .returned (.bool true) ∧ Below w.heap.size w w' := by
  unfold maxLen at h0 h1
  by_cases g : s.size ≤ 4000
  · have i1 : decide ((4000 : Int) < (s.size : Int)) = false := by rw [decide_eq_false_iff_not]; omega
    have f1 := fun w => few_any p1 A1 n1 c1 w (by omega)
    rw [decide_eq_false (by omega)] at f1
    have F1 := Lib.hid f1
    clear f1
    go_enter Try.func3, Try.ntmps3; (try simp only [List.append_eq, List.cons_append, List.nil_append])
    go_wp2_with fail
    -- own blocks: w.heap.size:2
    (go_at_call 10; refine (awake01_any _).mono ?_; rintro e w1 ⟨rfl, hb_w1⟩; have hz_w1 := hb_w1.size; (try simp at hz_w1); (with_reducible apply cel2 (b := w.heap.size) hb_w1); (focus ((try simp) <;> omega)); (focus omega); (focus (go_simp; try exact rfl)); (focus (go_simp; try exact rfl)); (focus (intro o; go_simp)); intro cc cc fz hl)
    go_wp2_with fail
    (go_at_call 11; refine (F1.out _).mono ?_; rintro e w2 ⟨rfl, hb_w2⟩; have hz_w2 := hb_w2.size; (try simp at hz_w2); (with_reducible apply cel2 (b := w.heap.size) hb_w2); (focus ((try simp) <;> omega)); (focus omega); (focus (go_simp; try exact rfl)); (focus (go_simp; try exact rfl)); (focus (intro o; go_simp)); intro cc cc fz hl)
    go_wp2_with fail
    (go_at_call 10; refine (awake01_any _).mono ?_; rintro e w3 ⟨rfl, hb_w3⟩; have hz_w3 := hb_w3.size; (try simp at hz_w3); (with_reducible apply cel2 (b := w.heap.size) hb_w3); (focus ((try simp) <;> omega)); (focus omega); (focus (go_simp; try exact rfl)); (focus (go_simp; try exact rfl)); (focus (intro o; go_simp)); intro cc cc fz hl)
    go_wp2_with fail
    go_ret
    exact ⟨rfl, by ((with_reducible (repeat (first | exact bR _ _ | refine bS ?_ ?_ _ | refine bA ?_ ?_ _ | refine bD ?_ | refine bT ?_ (by assumption) ?_ | refine bO (by assumption) ?_ ?_))) <;> (first | omega | (simp; done) | (simp <;> omega)))⟩
  · have i1 : decide ((4000 : Int) < (s.size : Int)) = true := by rw [decide_eq_true_iff]; omega
    go_enter Try.func3, Try.ntmps3; (try simp only [List.append_eq, List.cons_append, List.nil_append])
    go_wp2_with fail
    -- own blocks: w.heap.size:2
    (go_at_call 10; refine (awake01_any _).mono ?_; rintro e w1 ⟨rfl, hb_w1⟩; have hz_w1 := hb_w1.size; (try simp at hz_w1); (with_reducible apply cel2 (b := w.heap.size) hb_w1); (focus ((try simp) <;> omega)); (focus omega); (focus (go_simp; try exact rfl)); (focus (go_simp; try exact rfl)); (focus (intro o; go_simp)); intro cc cc fz hl)
    go_wp2_with fail
    (go_at_call 10; refine (awake01_any _).mono ?_; rintro e w2 ⟨rfl, hb_w2⟩; have hz_w2 := hb_w2.size; (try simp at hz_w2); (with_reducible apply cel2 (b := w.heap.size) hb_w2); (focus ((try simp) <;> omega)); (focus omega); (focus (go_simp; try exact rfl)); (focus (go_simp; try exact rfl)); (focus (intro o; go_simp)); intro cc cc fz hl)
    go_wp2_with fail
    go_ret
    exact ⟨rfl, by ((with_reducible (repeat (first | exact bR _ _ | refine bS ?_ ?_ _ | refine bA ?_ ?_ _ | refine bD ?_ | refine bT ?_ (by assumption) ?_ | refine bO (by assumption) ?_ ?_))) <;> (first | omega | (simp; done) | (simp <;> omega)))⟩
set_option maxRecDepth 100000 in
set_option maxHeartbeats 4000000 in
theorem short (s : ByteArray) (p1 : Bool) (A1 : Option Addr) (n1 c1 : Nat) (z1 : Int) (w : World) (h0 : s.size ≤ 4000) (h1 : n1 ≤ 40) (hA : IsZ w (.agg #[.bool p1, .slice A1 n1 c1]) 40 z1) :
    Calls Try.prog 3 #[.string s, .agg #[.bool p1, .slice A1 n1 c1]] w fun e w' => e = .returned (.bool true) ∧ Below w.heap.size w w' := by
  have la := isZ_len hA
  have i1 : decide ((4000 : Int) < (s.size : Int)) = false := by rw [decide_eq_false_iff_not]; omega
  have f1 := fun w => few_any p1 A1 n1 c1 w (by omega)
  rw [decide_eq_true h1] at f1
  have F1 := Lib.hid f1
  have HA := Lib.hid (hA.upto (show 40 ≤ 100 by decide))
  have kp := fun w => iparse_any s w (by omega)
  have kq := fun w => rparse_any s w (by omega)
  have hx := parseR_len s.data.toList
  obtain ⟨X, er, hX⟩ : ∃ X er, parseR s.data.toList = (X, er) := ⟨_, _, rfl⟩
  rw [hX] at kp kq hx
  have te : textE z1 = (strOf (textR z1), 0) := by unfold textE; rw [lgZ_of (show (canN z1.natAbs).length ≤ 100 by omega) (by decide)]; rfl
  have kt := fun u w h => itext_any 100 u z1 w h (by omega)
  have ku := fun u w h => rtext_any 100 u z1 w h (by omega)
  rw [te] at kt ku
  obtain ⟨S, hS⟩ : ∃ S, S = strOf (textR z1) := ⟨_, rfl⟩
  have hsl : S.size ≤ 100000 := by
    rw [hS, strOf_size]
    have h5 := digR_limbs la
    unfold textR
    split
    · simp
    · rw [List.length_append, List.length_reverse]
      split <;> simp <;> omega
  have kb := fun w => iparse_any S w hsl
  rw [hS, parse_text (by omega), ← hS] at kb
  rw [← hS] at kt ku
  simp only at kp kq kb kt ku hx
  have ks := fun u v w h1 h2 => same_yes u v X er w h1 h2 (by omega)
  have kc := fun u v w h1 h2 => icmp_eq 100 u v z1 z1 w h1 h2 (by omega) rfl
  have KP := Lib.hid kp
  have KQ := Lib.hid kq
  have KT := Lib.hid kt
  have KU := Lib.hid ku
  have KB := Lib.hid kb
  have KS := Lib.hid ks
  have KC := Lib.hid kc
  replace la : (canN z1.natAbs).length ≤ 100 := by omega
  clear kp kq kt ku kb ks kc f1 hA te hS hX hsl hx
  go_enter Try.func3, Try.ntmps3; (try simp only [List.append_eq, List.cons_append, List.nil_append])
  go_wp2_with fail
  -- own blocks: w.heap.size:2
  (go_at_call 10; refine (awake01_any _).mono ?_; rintro e w1 ⟨rfl, hb_w1⟩; have hz_w1 := hb_w1.size; (try simp at hz_w1); (with_reducible apply cel2 (b := w.heap.size) hb_w1); (focus ((try simp) <;> omega)); (focus omega); (focus (go_simp; try exact rfl)); (focus (go_simp; try exact rfl)); (focus (intro o; go_simp)); intro cc cc fz hl)
  go_wp2_with fail
  (go_at_call 11; refine (F1.out _).mono ?_; rintro e w2 ⟨rfl, hb_w2⟩; have hz_w2 := hb_w2.size; (try simp at hz_w2); (with_reducible apply cel2 (b := w.heap.size) hb_w2); (focus ((try simp) <;> omega)); (focus omega); (focus (go_simp; try exact rfl)); (focus (go_simp; try exact rfl)); (focus (intro o; go_simp)); intro cc cc fz hl)
  have HB := Lib.hid (show Below w.heap.size w w2 by ((with_reducible (repeat (first | exact bR _ _ | refine bS ?_ ?_ _ | refine bA ?_ ?_ _ | refine bD ?_ | refine bT ?_ (by assumption) ?_ | refine bO (by assumption) ?_ ?_))) <;> (first | omega | (simp; done) | (simp <;> omega))))
  replace HA := Lib.hid (HA.out.below HB.out)
  have hz2 : w.heap.size ≤ w2.heap.size := by omega
  clear hb_w1 hb_w2
  go_wp2_with fail
  (go_at_call 12; refine (KP.out _).mono ?_; rintro e w3 ⟨hb_w3, A3, c3, rfl, hc3, hA3⟩; have hz_w3 := hb_w3.size; (try simp at hz_w3); (with_reducible apply cel2 (b := w.heap.size) hb_w3); (focus ((try simp) <;> omega)); (focus omega); (focus (go_simp; try exact rfl)); (focus (go_simp; try exact rfl)); (focus (intro o; go_simp)); intro cc cc fz hl)
  have HW3 := Lib.hid (show Below w2.heap.size w2 w3 by ((with_reducible (repeat (first | exact bR _ _ | refine bS ?_ ?_ _ | refine bA ?_ ?_ _ | refine bD ?_ | refine bT ?_ (by assumption) ?_ | refine bO (by assumption) ?_ ?_))) <;> (first | omega | (simp; done) | (simp <;> omega))))
  have HX := Lib.hid (show IsC w3 (.agg #[.bool (decide (X < 0)), .slice A3 (canN X.natAbs).length c3]) X from ⟨A3, c3, rfl, hc3, hA3⟩)
  replace HA := Lib.hid (HA.out.below HW3.out)
  have hz3 : w.heap.size ≤ w3.heap.size := by omega
  replace HB := Lib.hid (HB.out.trans (HW3.out.mono (by omega)))
  clear hb_w3 HW3 hc3 hA3
  go_wp2_with fail
  -- own blocks besides: w3.heap.size:2
  (go_at_call 13; refine (KQ.out _).mono ?_; rintro e w4 ⟨hb_w4, A4, c4, rfl, hc4, hA4⟩; have hz_w4 := hb_w4.size; (try simp at hz_w4); (with_reducible apply cel2 (b := w.heap.size) hb_w4); (focus ((try simp) <;> omega)); (focus omega); (focus (go_simp; try exact rfl)); (focus (go_simp; try exact rfl)); (focus (intro o; go_simp)); intro cc cc fz hl; (with_reducible apply cel2 (b := w3.heap.size) hb_w4); (focus ((try simp) <;> omega)); (focus omega); (focus (go_simp; try exact rfl)); (focus (go_simp; try exact rfl)); (focus (intro o; go_simp)); intro cc cc fz hl)
  have HW4 := Lib.hid (show Below w3.heap.size w3 w4 by ((with_reducible (repeat (first | exact bR _ _ | refine bS ?_ ?_ _ | refine bA ?_ ?_ _ | refine bD ?_ | refine bT ?_ (by assumption) ?_ | refine bO (by assumption) ?_ ?_))) <;> (first | omega | (simp; done) | (simp <;> omega))))
  have HY := Lib.hid (show IsC w4 (.agg #[.bool (decide (X < 0)), .slice A4 (canN X.natAbs).length c4]) X from ⟨A4, c4, rfl, hc4, hA4⟩)
  replace HA := Lib.hid (HA.out.below HW4.out)
  replace HX := Lib.hid (HX.out.below HW4.out)
  have hz4 : w.heap.size ≤ w4.heap.size := by omega
  replace HB := Lib.hid (HB.out.trans (HW4.out.mono (by omega)))
  clear hb_w4 HW4 hc4 hA4
  go_wp2_with fail
  -- own blocks besides: w4.heap.size:2
  (go_at_call 14; refine (KT.out _ _ (HA.out.below ((Below.refl _ _).alloc (Nat.le_refl _) _))).mono ?_; rintro e w5 ⟨rfl, hb_w5⟩; have hz_w5 := hb_w5.size; (try simp at hz_w5); (with_reducible apply cel2 (b := w.heap.size) hb_w5); (focus ((try simp) <;> omega)); (focus omega); (focus (go_simp; try exact rfl)); (focus (go_simp; try exact rfl)); (focus (intro o; go_simp)); intro cc cc fz hl; (with_reducible apply cel2 (b := w3.heap.size) hb_w5); (focus ((try simp) <;> omega)); (focus omega); (focus (go_simp; try exact rfl)); (focus (go_simp; try exact rfl)); (focus (intro o; go_simp)); intro cc cc fz hl; (with_reducible apply cel2 (b := w4.heap.size) hb_w5); (focus ((try simp) <;> omega)); (focus omega); (focus (go_simp; try exact rfl)); (focus (go_simp; try exact rfl)); (focus (intro o; go_simp)); intro cc cc fz hl)
  have HW5 := Lib.hid (show Below w4.heap.size w4 w5 by ((with_reducible (repeat (first | exact bR _ _ | refine bS ?_ ?_ _ | refine bA ?_ ?_ _ | refine bD ?_ | refine bT ?_ (by assumption) ?_ | refine bO (by assumption) ?_ ?_))) <;> (first | omega | (simp; done) | (simp <;> omega))))
  replace HA := Lib.hid (HA.out.below HW5.out)
  replace HX := Lib.hid (HX.out.below HW5.out)
  replace HY := Lib.hid (HY.out.below HW5.out)
  have hz5 : w.heap.size ≤ w5.heap.size := by omega
  replace HB := Lib.hid (HB.out.trans (HW5.out.mono (by omega)))
  clear hb_w5 HW5
  go_wp2_with fail
  (go_at_call 15; refine (KU.out _ _ (HA.out.below (Below.refl _ _))).mono ?_; rintro e w6 ⟨rfl, hb_w6⟩; have hz_w6 := hb_w6.size; (try simp at hz_w6); (with_reducible apply cel2 (b := w.heap.size) hb_w6); (focus ((try simp) <;> omega)); (focus omega); (focus (go_simp; try exact rfl)); (focus (go_simp; try exact rfl)); (focus (intro o; go_simp)); intro cc cc fz hl; (with_reducible apply cel2 (b := w3.heap.size) hb_w6); (focus ((try simp) <;> omega)); (focus omega); (focus (go_simp; try exact rfl)); (focus (go_simp; try exact rfl)); (focus (intro o; go_simp)); intro cc cc fz hl; (with_reducible apply cel2 (b := w4.heap.size) hb_w6); (focus ((try simp) <;> omega)); (focus omega); (focus (go_simp; try exact rfl)); (focus (go_simp; try exact rfl)); (focus (intro o; go_simp)); intro cc cc fz hl)
  have HW6 := Lib.hid (show Below w5.heap.size w5 w6 by ((with_reducible (repeat (first | exact bR _ _ | refine bS ?_ ?_ _ | refine bA ?_ ?_ _ | refine bD ?_ | refine bT ?_ (by assumption) ?_ | refine bO (by assumption) ?_ ?_))) <;> (first | omega | (simp; done) | (simp <;> omega))))
  replace HA := Lib.hid (HA.out.below HW6.out)
  replace HX := Lib.hid (HX.out.below HW6.out)
  replace HY := Lib.hid (HY.out.below HW6.out)
  have hz6 : w.heap.size ≤ w6.heap.size := by omega
  replace HB := Lib.hid (HB.out.trans (HW6.out.mono (by omega)))
  clear hb_w6 HW6
  go_wp2_with fail
  (go_at_call 12; refine (KB.out _).mono ?_; rintro e w7 ⟨hb_w7, A7, c7, rfl, hc7, hA7⟩; have hz_w7 := hb_w7.size; (try simp at hz_w7); (with_reducible apply cel2 (b := w.heap.size) hb_w7); (focus ((try simp) <;> omega)); (focus omega); (focus (go_simp; try exact rfl)); (focus (go_simp; try exact rfl)); (focus (intro o; go_simp)); intro cc cc fz hl; (with_reducible apply cel2 (b := w3.heap.size) hb_w7); (focus ((try simp) <;> omega)); (focus omega); (focus (go_simp; try exact rfl)); (focus (go_simp; try exact rfl)); (focus (intro o; go_simp)); intro cc cc fz hl; (with_reducible apply cel2 (b := w4.heap.size) hb_w7); (focus ((try simp) <;> omega)); (focus omega); (focus (go_simp; try exact rfl)); (focus (go_simp; try exact rfl)); (focus (intro o; go_simp)); intro cc cc fz hl)
  have HW7 := Lib.hid (show Below w6.heap.size w6 w7 by ((with_reducible (repeat (first | exact bR _ _ | refine bS ?_ ?_ _ | refine bA ?_ ?_ _ | refine bD ?_ | refine bT ?_ (by assumption) ?_ | refine bO (by assumption) ?_ ?_))) <;> (first | omega | (simp; done) | (simp <;> omega))))
  have HZ := Lib.hid (show IsC w7 (.agg #[.bool (decide (z1 < 0)), .slice A7 (canN z1.natAbs).length c7]) z1 from ⟨A7, c7, rfl, hc7, hA7⟩)
  replace HA := Lib.hid (HA.out.below HW7.out)
  replace HX := Lib.hid (HX.out.below HW7.out)
  replace HY := Lib.hid (HY.out.below HW7.out)
  have hz7 : w.heap.size ≤ w7.heap.size := by omega
  replace HB := Lib.hid (HB.out.trans (HW7.out.mono (by omega)))
  clear hb_w7 HW7 hc7 hA7
  go_wp2_with fail
  -- own blocks besides: w7.heap.size:2
  (go_at_call 16; refine (KS.out _ _ _ (HX.out.below ((Below.refl _ _).alloc (Nat.le_refl _) _)) (HY.out.below ((Below.refl _ _).alloc (Nat.le_refl _) _))).mono ?_; rintro e w8 ⟨rfl, hb_w8⟩; have hz_w8 := hb_w8.size; (try simp at hz_w8); (with_reducible apply cel2 (b := w.heap.size) hb_w8); (focus ((try simp) <;> omega)); (focus omega); (focus (go_simp; try exact rfl)); (focus (go_simp; try exact rfl)); (focus (intro o; go_simp)); intro cc cc fz hl; (with_reducible apply cel2 (b := w3.heap.size) hb_w8); (focus ((try simp) <;> omega)); (focus omega); (focus (go_simp; try exact rfl)); (focus (go_simp; try exact rfl)); (focus (intro o; go_simp)); intro cc cc fz hl; (with_reducible apply cel2 (b := w4.heap.size) hb_w8); (focus ((try simp) <;> omega)); (focus omega); (focus (go_simp; try exact rfl)); (focus (go_simp; try exact rfl)); (focus (intro o; go_simp)); intro cc cc fz hl; (with_reducible apply cel2 (b := w7.heap.size) hb_w8); (focus ((try simp) <;> omega)); (focus omega); (focus (go_simp; try exact rfl)); (focus (go_simp; try exact rfl)); (focus (intro o; go_simp)); intro cc cc fz hl)
  have HW8 := Lib.hid (show Below w7.heap.size w7 w8 by ((with_reducible (repeat (first | exact bR _ _ | refine bS ?_ ?_ _ | refine bA ?_ ?_ _ | refine bD ?_ | refine bT ?_ (by assumption) ?_ | refine bO (by assumption) ?_ ?_))) <;> (first | omega | (simp; done) | (simp <;> omega))))
  replace HA := Lib.hid (HA.out.below HW8.out)
  replace HX := Lib.hid (HX.out.below HW8.out)
  replace HY := Lib.hid (HY.out.below HW8.out)
  replace HZ := Lib.hid (HZ.out.below HW8.out)
  have hz8 : w.heap.size ≤ w8.heap.size := by omega
  replace HB := Lib.hid (HB.out.trans (HW8.out.mono (by omega)))
  clear hb_w8 HW8
  go_wp2_with fail
  (go_at_call 17; refine (KC.out _ _ _ ((HZ.out.below (Below.refl _ _)).zl la) (HA.out.below (Below.refl _ _))).mono ?_; rintro e w9 ⟨rfl, hb_w9⟩; have hz_w9 := hb_w9.size; (try simp at hz_w9); (with_reducible apply cel2 (b := w.heap.size) hb_w9); (focus ((try simp) <;> omega)); (focus omega); (focus (go_simp; try exact rfl)); (focus (go_simp; try exact rfl)); (focus (intro o; go_simp)); intro cc cc fz hl; (with_reducible apply cel2 (b := w3.heap.size) hb_w9); (focus ((try simp) <;> omega)); (focus omega); (focus (go_simp; try exact rfl)); (focus (go_simp; try exact rfl)); (focus (intro o; go_simp)); intro cc cc fz hl; (with_reducible apply cel2 (b := w4.heap.size) hb_w9); (focus ((try simp) <;> omega)); (focus omega); (focus (go_simp; try exact rfl)); (focus (go_simp; try exact rfl)); (focus (intro o; go_simp)); intro cc cc fz hl; (with_reducible apply cel2 (b := w7.heap.size) hb_w9); (focus ((try simp) <;> omega)); (focus omega); (focus (go_simp; try exact rfl)); (focus (go_simp; try exact rfl)); (focus (intro o; go_simp)); intro cc cc fz hl)
  have HW9 := Lib.hid (show Below w8.heap.size w8 w9 by ((with_reducible (repeat (first | exact bR _ _ | refine bS ?_ ?_ _ | refine bA ?_ ?_ _ | refine bD ?_ | refine bT ?_ (by assumption) ?_ | refine bO (by assumption) ?_ ?_))) <;> (first | omega | (simp; done) | (simp <;> omega))))
  replace HA := Lib.hid (HA.out.below HW9.out)
  replace HX := Lib.hid (HX.out.below HW9.out)
  replace HY := Lib.hid (HY.out.below HW9.out)
  replace HZ := Lib.hid (HZ.out.below HW9.out)
  have hz9 : w.heap.size ≤ w9.heap.size := by omega
  replace HB := Lib.hid (HB.out.trans (HW9.out.mono (by omega)))
  clear hb_w9 HW9
  go_wp2_with fail
  go_ret
  refine ⟨ret_bool (by first | rfl | simp | (simp; omega)), HB.out⟩

theorem walk (w : World) (s : ByteArray) (hm : s.size ≤ maxLen) (a0 : Array Value) (n0 : Nat) (w0 : RowIs Try.prog w n0 24 a0.toList) :
    Calls Try.prog 3 #[.string s, .agg a0] w fun e w' => e = .returned (.bool true) ∧ Below w.heap.size w w' := by
  obtain ⟨p, A, len, cap, z, e, hml, hA⟩ := int_open w0
  obtain ⟨l⟩ := a0
  simp only at e
  subst e
  by_cases h : s.size ≤ 4000 ∧ len ≤ 40
  · exact short s p A len cap z w h.1 h.2 (hA.upto h.2)
  · exact long s p A len cap w h hm hml
theorem own : ownKnob Try.prog.godebug = none := by kernel_rfl
theorem laidOut : laidOutB Try.prog = true := by kernel_rfl
set_option maxRecDepth 100000 in
theorem lifted (os : Os) (started : os.Started) (H : Type) (enc : TypeId × Value → H) :
    ReturnsInHanded {} Try.checked os 3 .any (Rows.integerTextSpec.pre6 enc Try.prog Try.f3 Rows.integerTextRow.domain false) (Rows.integerTextSpec.post enc Try.prog Try.f3 false true false false) := by
  refine returnsInHanded_of_change (C := Try.checked) own started (by kernel_rfl) Try.func3
    (ChangeSpec.witness6 (enc := enc) (C := Try.checked) false ⟨#[], #[.string ByteArray.empty, .agg #[.bool false, .slice none 0 0]], []⟩ 8 (by kernel_rfl) (by kernel_rfl) (by kernel_rfl) (by kernel_rfl)) ?_
  intro W base args ds gs before hval0 hW hcnd _
  have hval : ∀ (j : Nat) t v, Try.f3.params[j]? = some t → args[j]? = some v → Value.okWide Try.prog W .any base t v := hval0
  have hW' := hW
  obtain ⟨p, q, hA0, hV, rfl, hfz, hnd⟩ := hW
  have hA : DataW.TrodAll enc Try.prog W 0 (fun _ => true) true Try.f3.params.toList args.toList ds p := hA0
  rw [Try.params3] at hA hval
  obtain ⟨v0, vs0, d0, ds0, p0, q0, hargs, rfl, rfl, h0, r0⟩ := trodAll_cons hA
  obtain ⟨v1, vs1, d1, ds1, p1, q1, rfl, rfl, rfl, h1, r1⟩ := trodAll_cons r0
  obtain ⟨rfl, rfl, rfl⟩ := trodAll_nil r1
  obtain rfl : args = #[v0, v1] := by cases args; simp_all
  obtain ⟨rfl, rfl⟩ := trodVars_none hV
  obtain ⟨a0, rfl, rfl, rfl, w0⟩ := open_string Try.underlying9 (hval 0 9 v0 rfl rfl) h0
  obtain ⟨a1, rfl, hs1⟩ := okWide_struct Try.underlying24 (hval 1 24 v1 rfl rfl)
  have k1 := h1
  have lt1 : ∀ x ∈ p1, x.block < W.heap.size := by obtain ⟨m, hm⟩ := k1; exact DataW.trod_lt m _ _ _ hm
  obtain ⟨n1, w1⟩ : ∃ n, RowIs Try.prog W n 24 a1.toList := by obtain ⟨fuel, hf⟩ := h1; exact ⟨fuel, rowIs_of_trod fuel _ _ _ hf⟩
  clear hA0 hval0
  refine (walk W a0 w0 a1 n1 w1).mono fun e W' ⟨he, bel⟩ => ?_
  subst he
  exact ⟨_, rfl, _, _, _, [], _, [], hW', trodAll_mk1 (shut_bool Try.underlying4 _), (trodAll_cons_mk (shut_string Try.underlying9 w0) (trodAll_cons_mk (Below.trod laidOut (by kernel_rfl) (of_decide_eq_true (by kernel_rfl)) k1 bel lt1) trodAll_mk0)), rfl, bel.frame _, fun h => by cases h⟩

theorem over : Rows.integerTextRow.holds Try.pinned (OpenSpec.ofChange Rows.integerTextSpec) :=
  OpenClaim.holds_of_wide 3 Try.f3 rfl rfl rfl rfl rfl rfl rfl ⟨rfl, rfl, rfl, rfl, rfl⟩ rfl rfl rfl rfl rfl (by kernel_rfl) Try.func3 (by kernel_rfl)
    (of_decide_eq_true (by kernel_rfl)) (by unfold Func.isWrapper; first | (rw [if_pos (by decide +kernel)]; kernel_rfl) | (rw [if_neg (by decide +kernel)]; exact ⟨rfl, rfl⟩))
    (fun os started H enc _ => lifted os started H enc)

theorem proved : Rows.IntegerTextSaid := over
#print axioms proved
end Go.Proofs.Ytadkcipjcmkoiaa.lawIT
