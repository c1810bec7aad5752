/- Law VectorMulDiv returns true for every three numbers. No conditions. -/
import Derived.Test.YtkoejgpnlncgaaaBigR
import Derived.Test.YtkoejgpnlncgaaaAwake6
import Derived.Test.YtkoejgpnlncgaaaOpenV
import Derived.Test.YtkoejgpnlncgaaaRows
namespace Go.Proofs.Ytkoejgpnlncgaaa.lawVM
open Go.ChangeShapes Go.WideShapes Go.ChangeAt Go.RowKit
set_option linter.unusedVariables false
theorem of_len {a : Int} (h : Bd a) : (canN a.natAbs).length ≤ 100 := Nat.le_trans (canN_word (by obtain ⟨h1, h2⟩ := h; omega)) (by decide)
theorem mul_len {a b : Int} (ha : Bd a) (hb : Bd b) : (canN (a * b).natAbs).length ≤ 100 := by
  refine Nat.le_trans (m := 4) (canN_len.2 ?_) (by decide)
  have e : PB 4 = 340282366920938463463374607431768211456 := by decide
  rw [Int.natAbs_mul, e]
  obtain ⟨h1, h2⟩ := ha
  obtain ⟨h3, h4⟩ := hb
  have := Nat.mul_le_mul (show a.natAbs ≤ 9223372036854775808 by omega) (show b.natAbs ≤ 9223372036854775808 by omega)
  omega
set_option maxRecDepth 100000 in
set_option maxHeartbeats 2000000 in
theorem rmuldiv_any (a b c : Int) (w : World) (ha : Bd a) (hb : Bd b) (hc : Bd c) :
    Calls Try.prog 33 #[.int .i64 a, .int .i64 b, .int .i64 c] w fun e w' => e = .returned (.tuple #[.int .i64 (mulDivR a b c).1, .bool (mulDivR a b c).2]) ∧ Below w.heap.size w w' := by
  by_cases h0 : c = 0
  · subst h0
    have e : mulDivR a b 0 = (0, false) := if_pos rfl
    rw [e]
    go_enter Try.func33, Try.ntmps33; (try simp only [List.append_eq, List.cons_append, List.nil_append])
    go_wp2_with fail
    go_ret2
    exact ⟨rfl, Below.refl _ _⟩
  · have hne : (c == 0) = false := by rw [beq_eq_false_iff_ne]; exact h0
    have e : mulDivR a b c = numR ((a * b).tdiv c) := by unfold mulDivR numR; rw [if_neg h0]
    rw [e]
    have hml := mul_len ha hb
    have hoa := of_len ha
    have hob := of_len hb
    have hoc := of_len hc
    obtain ⟨a1, a2⟩ := ha
    obtain ⟨b1, b2⟩ := hb
    obtain ⟨c1, c2⟩ := hc
    obtain ⟨P, hP⟩ : ∃ P, P = a * b := ⟨_, rfl⟩
    obtain ⟨Q, hQ⟩ : ∃ Q, Q = P.tdiv c := ⟨_, rfl⟩
    have hql : (canN Q.natAbs).length ≤ 100 := by
      refine Nat.le_trans (canN_mono ?_) hml
      rw [hQ, hP, Int.natAbs_tdiv]
      exact Nat.div_le_self _ _
    have ht := fun u v w h1 h2 => times_any 100 u v a b w h1 h2 (by omega)
    have hd := fun u v w h1 h2 => div_any 100 u v P c w h1 h2 (by omega) h0
    have hn := fun v w h => number_any 100 v Q w h (by omega)
    rw [← hP] at ht hml ⊢
    rw [← hQ] at hd ⊢
    obtain ⟨r1, r2, hr⟩ : ∃ r1 r2, numR Q = (r1, r2) := ⟨_, _, rfl⟩
    rw [hr] at hn ⊢
    have HT := Lib.hid ht
    have HD := Lib.hid hd
    have HN := Lib.hid hn
    clear ht hd hn hP hQ e h0 hr
    go_enter Try.func33, Try.ntmps33; (try simp only [List.append_eq, List.cons_append, List.nil_append])
    go_wp2_with fail
    -- own blocks: 
    (go_at_call 67; refine (of_any a _ a1 a2).mono ?_; rintro e w1 ⟨hb_w1, v1, rfl, hv1⟩; have hz_w1 := hb_w1.size; (try simp at hz_w1); skip)
    have H1 := Lib.hid hv1
    clear hv1
    go_wp2_with fail
    (go_at_call 67; refine (of_any b _ b1 b2).mono ?_; rintro e w2 ⟨hb_w2, v2, rfl, hv2⟩; have hz_w2 := hb_w2.size; (try simp at hz_w2); skip)
    have H2 := Lib.hid hv2
    have H12 := Lib.hid (H1.out.below hb_w2)
    clear hv2
    go_wp2_with fail
    (go_at_call 76; refine (HT.out _ _ _ (H12.out.zl hoa) (H2.out.zl hob)).mono ?_; rintro e w3 ⟨hb_w3, v3, rfl, hv3⟩; have hz_w3 := hb_w3.size; (try simp at hz_w3); skip)
    have H3 := Lib.hid hv3
    clear hv3
    go_wp2_with fail
    (go_at_call 67; refine (of_any c _ c1 c2).mono ?_; rintro e w4 ⟨hb_w4, v4, rfl, hv4⟩; have hz_w4 := hb_w4.size; (try simp at hz_w4); skip)
    have H4 := Lib.hid hv4
    have H34 := Lib.hid (H3.out.below hb_w4)
    clear hv4
    go_wp2_with fail
    (go_at_call 75; refine (HD.out _ _ _ (H34.out.zl hml) (H4.out.zl hoc)).mono ?_; rintro e w5 ⟨hb_w5, v5, v6, rfl, ⟨A5, c5, rfl, hc5, hA5⟩, ⟨A6, c6, rfl, hc6, hA6⟩⟩; have hz_w5 := hb_w5.size; (try simp at hz_w5); skip)
    have H5 := Lib.hid (show IsC w5 (.agg #[.bool (decide (Q < 0)), .slice A5 (canN Q.natAbs).length c5]) Q from ⟨A5, c5, rfl, hc5, hA5⟩)
    have HB5 := Lib.hid (show Below w.heap.size w w5 by (repeat (first | (with_reducible exact Below.refl _ _) | (with_reducible refine Below.setCell ?_ ?_ _) | (with_reducible refine Below.alloc ?_ ?_ _) | (with_reducible refine Below.drew ?_) | (with_reducible refine Below.trans ?_ (Below.mono (by assumption) ?_)) | (with_reducible refine Own.below (by assumption) ?_ ?_))) <;> (first | omega | (simp; done) | (simp <;> omega)))
    have hz5 : w.heap.size ≤ w5.heap.size := by omega
    clear hA5 hA6 hc5 hc6 hb_w1 hb_w2 hb_w3 hb_w4 hb_w5
    go_wp2_with fail
    (go_at_call 77; refine (HN.out _ _ ((H5.out.below (((Below.refl _ _).alloc (Nat.le_refl _) _).alloc (by simp) _)).zl hql)).mono ?_; rintro e w6 ⟨rfl, hb_w6⟩; have hz_w6 := hb_w6.size; (try simp at hz_w6); skip)
    have HB6 := Lib.hid (((HB5.out.alloc hz5 _).alloc (by simp <;> omega) _).trans (hb_w6.mono (by simp <;> omega)))
    clear hb_w6
    go_wp2_with fail
    go_ret2
    exact ⟨rfl, HB6.out⟩
set_option maxHeartbeats 1000000 in
theorem vm_any (a b c : Int) (w : World) (ha : Bd a) (hb : Bd b) (hc : Bd c) :
    Calls Try.prog 7 #[.int .i64 a, .int .i64 b, .int .i64 c] w fun e w' => e = .returned (.bool true) ∧ Below w.heap.size w w' := by
  have h1 := fun w => muldiv_any a b c w ha.1 ha.2 hb.1 hb.2 hc.1 hc.2
  have h2 := fun w => rmuldiv_any a b c w ha hb hc
  obtain ⟨r1, r2, hr⟩ : ∃ r1 r2, mulDivR a b c = (r1, r2) := ⟨_, _, rfl⟩
  rw [hr] at h1 h2
  have H1 := Lib.hid h1
  have H2 := Lib.hid h2
  clear h1 h2 hr
  go_enter Try.func7, Try.ntmps7; (try simp only [List.append_eq, List.cons_append, List.nil_append])
  go_wp2_with fail
  -- own blocks: 
  (go_at_call 31; refine (awake06_any _).mono ?_; rintro e w1 ⟨rfl, hb_w1⟩; have hz_w1 := hb_w1.size; (try simp at hz_w1); skip)
  go_wp2_with fail
  (go_at_call 32; refine (H1.out _).mono ?_; rintro e w2 ⟨rfl, hb_w2⟩; have hz_w2 := hb_w2.size; (try simp at hz_w2); skip)
  go_wp2_with fail
  (go_at_call 33; refine (H2.out _).mono ?_; rintro e w3 ⟨rfl, hb_w3⟩; have hz_w3 := hb_w3.size; (try simp at hz_w3); skip)
  go_wp2_with fail
  go_ret
  refine ⟨ret_bool ?_, ?_⟩
  · simp
  · (repeat (first | (with_reducible exact Below.refl _ _) | (with_reducible refine Below.setCell ?_ ?_ _) | (with_reducible refine Below.alloc ?_ ?_ _) | (with_reducible refine Below.drew ?_) | (with_reducible refine Below.trans ?_ (Below.mono (by assumption) ?_)) | (with_reducible refine Own.below (by assumption) ?_ ?_))) <;> (first | omega | (simp; done) | (simp <;> omega))
theorem walk (w : World) (a0 : Int) (w0 : (Lit.int .i64 a0).wf = true) (a1 : Int) (w1 : (Lit.int .i64 a1).wf = true) (a2 : Int) (w2 : (Lit.int .i64 a2).wf = true) :
    Calls Try.prog 7 #[.int .i64 a0, .int .i64 a1, .int .i64 a2] w fun e w' => e = .returned (.bool true) ∧ Below w.heap.size w w' := vm_any a0 a1 a2 w (wf_bd w0) (wf_bd w1) (wf_bd w2)
theorem own : ownKnob Try.prog.godebug = none := by kernel_rfl
theorem laidOut : laidOutB Try.prog = true := by kernel_rfl
set_option maxRecDepth 100000 in
theorem lifted (os : Os) (started : os.Started) (H : Type) (enc : TypeId × Value → H) :
    ReturnsInHanded {} Try.checked os 7 .any (Rows.vectorMulDivSpec.pre6 enc Try.prog Try.f7 Rows.vectorMulDivRow.domain false) (Rows.vectorMulDivSpec.post enc Try.prog Try.f7 false true false false) := by
  refine returnsInHanded_of_change (C := Try.checked) own started (by kernel_rfl) Try.func7
    (ChangeSpec.witness6 (enc := enc) (C := Try.checked) false ⟨#[], #[.int .i64 0, .int .i64 0, .int .i64 0], []⟩ 8 (by kernel_rfl) (by kernel_rfl) (by kernel_rfl) (by kernel_rfl)) ?_
  intro W base args ds gs before hval0 hW hcnd _
  have hval : ∀ (j : Nat) t v, Try.f7.params[j]? = some t → args[j]? = some v → Value.okWide Try.prog W .any base t v := hval0
  have hW' := hW
  obtain ⟨p, q, hA0, hV, rfl, hfz, hnd⟩ := hW
  have hA : DataW.TrodAll enc Try.prog W 0 (fun _ => true) true Try.f7.params.toList args.toList ds p := hA0
  rw [Try.params7] at hA hval
  obtain ⟨v0, vs0, d0, ds0, p0, q0, hargs, rfl, rfl, h0, r0⟩ := trodAll_cons hA
  obtain ⟨v1, vs1, d1, ds1, p1, q1, rfl, rfl, rfl, h1, r1⟩ := trodAll_cons r0
  obtain ⟨v2, vs2, d2, ds2, p2, q2, rfl, rfl, rfl, h2, r2⟩ := trodAll_cons r1
  obtain ⟨rfl, rfl, rfl⟩ := trodAll_nil r2
  obtain rfl : args = #[v0, v1, v2] := by cases args; simp_all
  obtain ⟨rfl, rfl⟩ := trodVars_none hV
  obtain ⟨a0, rfl, rfl, rfl, w0⟩ := open_int Try.underlying3 (hval 0 3 v0 rfl rfl) h0
  obtain ⟨a1, rfl, rfl, rfl, w1⟩ := open_int Try.underlying3 (hval 1 3 v1 rfl rfl) h1
  obtain ⟨a2, rfl, rfl, rfl, w2⟩ := open_int Try.underlying3 (hval 2 3 v2 rfl rfl) h2
  clear hA0 hval0
  refine (walk W a0 w0 a1 w1 a2 w2).mono fun e W' ⟨he, bel⟩ => ?_
  subst he
  exact ⟨_, rfl, _, _, _, [], _, [], hW', trodAll_mk1 (shut_bool Try.underlying4 _), (trodAll_cons_mk (shut_int Try.underlying3 w0) (trodAll_cons_mk (shut_int Try.underlying3 w1) (trodAll_cons_mk (shut_int Try.underlying3 w2) trodAll_mk0))), rfl, bel.frame _, fun h => by cases h⟩

theorem over : Rows.vectorMulDivRow.holds Try.pinned (OpenSpec.ofChange Rows.vectorMulDivSpec) :=
  OpenClaim.holds_of_wide 7 Try.f7 rfl rfl rfl rfl rfl rfl rfl ⟨rfl, rfl, rfl, rfl, rfl⟩ rfl rfl rfl rfl rfl (by kernel_rfl) Try.func7 (by kernel_rfl)
    (of_decide_eq_true (by kernel_rfl)) (by unfold Func.isWrapper; first | (rw [if_pos (by decide +kernel)]; kernel_rfl) | (rw [if_neg (by decide +kernel)]; exact ⟨rfl, rfl⟩))
    (fun os started H enc _ => lifted os started H enc)

theorem proved : Rows.VectorMulDivSaid := over
#print axioms proved
end Go.Proofs.Ytkoejgpnlncgaaa.lawVM
