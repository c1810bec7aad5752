/- The contracts of pinballref02.Trim, Of, Same. -/
import Derived.Test.YtkoejgpnlncgaaaPolW
import Derived.Test.YtkoejgpnlncgaaaBigS
import Derived.Test.YtkoejgpnlncgaaaBigX
namespace Go.Proofs.Ytkoejgpnlncgaaa
open Go Go.RowKit
set_option linter.unusedVariables false
set_option maxHeartbeats 1000000 in
theorem ptrim_any (n : Nat) (v : Value) (z : Int) (w : World) (h : IsZ w v n z) (hn : n ≤ 1000000) :
    Calls Try.prog 95 #[v] w (ZOwn z w) := by
  obtain ⟨neg, A, c, l, rfl, hc, hL, hl, hA, rfl⟩ := h
  have hm := fun w hA => make1_own neg A l c w hL hA hc (by omega)
  obtain ⟨Z, hZ⟩ : ∃ Z, Z = sv neg (mv l) := ⟨_, rfl⟩
  rw [← hZ] at hm ⊢
  have HM := Lib.hid hm
  have HA := Lib.hid hA
  clear hm hA hZ
  go_enter Try.func95, Try.ntmps95; (try simp only [List.append_eq, List.cons_append, List.nil_append])
  go_wp2_with fail
  -- own blocks: w.heap.size:2, w.heap.size + 1:2
  (go_at_call 89; refine (HM.out _ ((HA.out.alloc _).alloc _)).mono ?_; rintro e w1 ⟨hb_w1, A1, c1, rfl, hc1, hA1⟩; have hz_w1 := hb_w1.size; (try simp at hz_w1); (with_reducible apply cel2 (b := w.heap.size) hb_w1); (focus ((try simp) <;> omega)); (focus omega); (focus (go_simp; try exact rfl)); (focus (go_simp; try exact rfl)); (focus (intro o; go_simp)); intro cc cc fz hl; (with_reducible apply cel2 (b := w.heap.size + 1) hb_w1); (focus ((try simp) <;> omega)); (focus omega); (focus (go_simp; try exact rfl)); (focus (go_simp; try exact rfl)); (focus (intro o; go_simp)); intro cc cc fz hl)
  have HC := Lib.hid hc1
  have HA1 := Lib.hid hA1
  clear hc1 hA1
  go_wp2_with fail
  refine bodyPost_ret (v := .agg #[.bool (decide (Z < 0)), .slice A1 (canN Z.natAbs).length c1]) (by simp only [results, Try.results95]; go_simp) rfl ⟨?_, ?_⟩
  · ((with_reducible (repeat (first | exact bR _ _ | refine bS ?_ ?_ _ | refine bA ?_ ?_ _ | refine bD ?_ | refine bT ?_ (by assumption) ?_ | refine bO (by assumption) ?_ ?_))) <;> (first | omega | (simp; done) | (simp <;> omega)))
  · exact ⟨A1, c1, rfl, HC.out, ((HA1.out.setCell (by simp <;> omega) _).setCell (by simp <;> omega) _).weak (by simp <;> omega)⟩
set_option maxRecDepth 100000 in
set_option maxHeartbeats 4000000 in
theorem rtrimp_any (N : Nat) (A : Option Addr) (vs : List (Value × Value)) (zs : List Int) (c : Nat) (w : World) (hA : PaAt w A vs) (hz : AllC w vs zs) (hn : vs.length ≤ 1000000) (hl : ∀ z ∈ zs, (canN z.natAbs).length ≤ N) (hN : N ≤ 1000000) :
    Calls Try.prog 87 #[.slice A vs.length c] w (POut (trimP zs) w) := by
  have HA := Lib.hid hA
  have HZ := Lib.hid hz
  have HL := Lib.hid hl
  obtain ⟨ln, hln⟩ : ∃ n, n = vs.length := ⟨_, rfl⟩
  have HLN := Lib.hid hln
  rw [← hln] at hn ⊢
  have l0 : (0 : Int) ≤ (ln : Int) := by omega
  have l1 : (ln : Int) ≤ 1000000 := by omega
  clear hA hz hl hln
  go_enter Try.func87, Try.ntmps87; (try simp only [List.append_eq, List.cons_append, List.nil_append])
  go_wp2_with fail
  go_loopw [3] (fun vn wr => ∃ n : Nat, vn = .int .i64 n ∧ n ≤ ln ∧ Hid (∀ (j : Nat) (z : Int), zs[j]? = some z → n ≤ j → z = 0) ∧ Below w.heap.size w wr) (fun vn _ => (intOf vn).toNat)
  case atStart => exact ⟨ln, rfl, Nat.le_refl _, Lib.hid (fun j z hj hq => by have h1 := (List.getElem?_eq_some_iff.1 hj).1; have h2 := HZ.out.1; have h3 := HLN.out; omega), Below.refl _ _⟩
  case round =>
    obtain ⟨n, rfl, hnl, HQ, hbel⟩ := hrel
    have HB := Lib.hid hbel
    have hz1 := hbel.size
    clear hbel
    have fin : Hid (tz zs = n → ∀ (w7 : World) , trimP zs = zs.take n) := Lib.hid (fun h _ => by unfold trimP; rw [h])
    by_cases hex : 0 < n ∧ ∃ z, zs[n - 1]? = some z ∧ z = 0
    · obtain ⟨hn0, z, hzj, hz0⟩ := hex
      obtain ⟨j, rfl⟩ : ∃ j, n = j + 1 := ⟨n - 1, by omega⟩
      rw [Nat.add_sub_cancel] at hzj
      obtain ⟨x, y, z', hp, hzj', hC⟩ := get_both HZ.out (j := j) (by have := HLN.out; omega)
      have hzz : z' = z := by rw [hzj] at hzj'; injection hzj' with h; exact h.symm
      subst hzz
      obtain ⟨g, o, rfl, hg, c0, c1⟩ := HA.out.below HB.out j _ hp
      simp only at c0 c1
      have HC := Lib.hid ((hC.below HB.out).zl (HL.out z' (List.mem_of_getElem? hzj)))
      obtain ⟨A', c', rfl, rfl, _, _⟩ := isC_shape hC
      have hsg := fun w' h => sign_any N (.agg #[.bool (decide (z' < 0)), .slice A' (canN z'.natAbs).length c']) z' w' h hN
      have hs0 := @sgn_zero z'
      obtain ⟨s, hs⟩ : ∃ s, s = sgn z' := ⟨_, rfl⟩
      rw [← hs] at hsg hs0
      rw [decide_eq_true hz0] at hs0
      have HSG := Lib.hid hsg
      have HZJ := Lib.hid (And.intro hzj hz0)
      have i1 : (0 : Int) ≤ (j : Int) := by omega
      have i2 : (j : Int) < (ln : Int) := by omega
      have i3 : (0 : Int) < (j : Int) + 1 := by omega
      have i4 : (j : Int) + 1 ≤ 1000000 := by omega
      clear hp hzj hzj' hC hsg hs hz0 fin
      go_wp2_with fail
      -- own blocks: 
      (go_at_call 104; refine (HSG.out _ HC.out).mono ?_; rintro e w5 ⟨rfl, hb_w5⟩; have hz_w5 := hb_w5.size; (try simp at hz_w5); skip)
      have HB5 := Lib.hid (HB.out.trans (hb_w5.mono hz1))
      clear hb_w5
      go_wp2_with fail
      go_roundw
      case rel => exact ⟨j, by go_num, by omega, Lib.hid (fun i y hi hij => by
        by_cases e : i = j
        · subst e; rw [HZJ.out.1] at hi; injection hi with hi; rw [← hi]; exact HZJ.out.2
        · exact HQ.out i y hi (by omega)), HB5.out⟩
      case measure => first | (simp [intOf]; done) | (simp [intOf]; omega)
    · have HT := Lib.hid (show trimP zs = zs.take n from fin.out (tz_of (by have h2 := HZ.out.1; have h3 := HLN.out; omega) HQ.out (fun y hy0 hy e => hex ⟨hy0, y, hy, e⟩)) w)
      have build : ∀ wb, Below w.heap.size w wb → True := fun _ _ => trivial
      have n0 : (0 : Int) ≤ (n : Int) := by omega
      have n1 : (n : Int) ≤ 1000000 := by omega
      rcases n with _ | j
      · have hzero := HT.out
        rw [List.take_zero] at hzero
        have HT0 := Lib.hid hzero
        clear hex fin build hzero
        go_wp2_with fail
        go_loopw [4, 5] (fun vm vi wk => vm = .slice none 0 0 ∧ vi = .int .i64 0 ∧ Below wr.heap.size wr wk) (fun _ _ _ => 0)
        case atStart => exact ⟨rfl, rfl, Below.refl _ _⟩
        case round =>
          obtain ⟨rfl, rfl, hb2⟩ := hrel
          have HB2 := Lib.hid hb2
          clear hb2
          go_wp2_with fail
          go_ret
          refine ⟨HB.out.trans (HB2.out.mono hz1), .slice none 0 0, ?_, by rw [HT0.out]; exact isP_nil _⟩
          first | rfl | (simp; done)
      · obtain ⟨x, y, z, hp, hzj, hC⟩ := get_both HZ.out (j := j) (by have := HLN.out; omega)
        obtain ⟨g, o, rfl, hg, c0, c1⟩ := HA.out.below HB.out j _ hp
        simp only at c0 c1
        have hz0 : ¬ z = 0 := fun e => hex ⟨by omega, z, by rw [Nat.add_sub_cancel]; exact hzj, e⟩
        have HC := Lib.hid ((hC.below HB.out).zl (HL.out z (List.mem_of_getElem? hzj)))
        obtain ⟨A', c', rfl, rfl, _, _⟩ := isC_shape hC
        have hsg := fun w' h => sign_any N (.agg #[.bool (decide (z < 0)), .slice A' (canN z.natAbs).length c']) z w' h hN
        have hs0 := @sgn_zero z
        obtain ⟨s, hs⟩ : ∃ s, s = sgn z := ⟨_, rfl⟩
        rw [← hs] at hsg hs0
        rw [decide_eq_false hz0] at hs0
        have HSG := Lib.hid hsg
        have i1 : (0 : Int) ≤ (j : Int) := by omega
        have i2 : (j : Int) < (ln : Int) := by omega
        have i3 : (0 : Int) < (j : Int) + 1 := by omega
        have i4 : (j : Int) + 1 ≤ 1000000 := by omega
        clear hp hzj hC hsg hs hz0 fin hex build
        go_wp2_with fail
        -- own blocks: 
        (go_at_call 104; refine (HSG.out _ HC.out).mono ?_; rintro e w5 ⟨rfl, hb_w5⟩; have hz_w5 := hb_w5.size; (try simp at hz_w5); skip)
        have HB5 := Lib.hid (HB.out.trans (hb_w5.mono hz1))
        clear hb_w5 c0 c1
        go_wp2_with fail
        have hz5 := HB5.out.size
        go_loopw [4, 5] (fun vm vi wk => ∃ (i : Nat) (xs : List (Value × Value)), i ≤ j + 1 ∧ vi = .int .i64 i ∧ OwnP wk w5.heap.size vm xs ∧ Hid (xs.length = i ∧ AllC wk xs (zs.take i) ∧ Apt wk vm.ownBlock xs) ∧ Below w5.heap.size w5 wk) (fun _ vi _ => (j + 1 - (intOf vi).toNat))
        case atStart => exact ⟨0, [], by omega, rfl, OwnP.nil _ _, Lib.hid ⟨rfl, AllC.nil _, Apt.nil _ _⟩, Below.refl _ _⟩
        case round =>
          obtain ⟨i, xs, hi, rfl, hown, HI, hb2⟩ := hrel
          obtain ⟨wo, rfl⟩ : ∃ wo : World, wo = wr := ⟨_, rfl⟩
          have HOW := Lib.hid hown
          have HB2 := Lib.hid hb2
          have hz2 := hb2.size
          have HBB := Lib.hid (HB5.out.trans (hb2.mono hz5))
          have k0 : (0 : Int) ≤ (i : Int) := by omega
          clear hb2
          obtain ⟨AX, cX, eX, _, _⟩ := hown.pa
          subst eX
          clear hown
          by_cases hij : i < j + 1
          · have k1 : (i : Int) < (j : Int) + 1 := by omega
            have k2 : (i : Int) < (ln : Int) := by omega
            obtain ⟨x, y, z, hp, hzj, hC⟩ := get_both HZ.out (j := i) (by have := HLN.out; omega)
            obtain ⟨g, o, eA, hg, c0, c1⟩ := HA.out.below HBB.out i _ hp
            simp only [Option.some.injEq, Addr.mk.injEq, and_true] at eA
            obtain ⟨rfl, rfl⟩ := eA
            simp only at c0 c1
            have HC := Lib.hid ((hC.below HBB.out).zl (HL.out z (List.mem_of_getElem? hzj)))
            obtain ⟨A', c', rfl, rfl, _, _⟩ := isC_shape hC
            have HTS := Lib.hid (take_snoc_any hzj)
            clear hp hzj hC
            go_wp2_with fail
            -- own blocks: 
            (go_at_call 95; refine (ptrim_any N _ z _ HC.out hN).mono ?_; rintro e w7 ⟨hb_w7, A7, c7, rfl, hc7, hA7⟩; have hz_w7 := hb_w7.size; (try simp at hz_w7); skip)
            have HC7 := Lib.hid (show IsC w7 (.agg #[.bool (decide (z < 0)), .slice A7 (canN z.natAbs).length c7]) z from ⟨A7, c7, rfl, hc7, hA7.lat⟩)
            have HAD := Lib.hid hA7.addr
            have HB7 := Lib.hid (HB2.out.trans (hb_w7.mono hz2))
            have hz7 := HB7.out.size
            have HO7 := Lib.hid (HOW.out.below hb_w7)
            have HN7 := Lib.hid (HI.out.2.1.below hb_w7)
            have HP7 := Lib.hid (HI.out.2.2.size hb_w7.size)
            have HXL := Lib.hid HI.out.1
            clear hb_w7 hc7 hA7 c0 c1
            go_wp2_with (at_builtin; go_must (refine wpList_append_pair rfl _ _ rfl w5.heap.size _ xs rfl (HO7.out.alloc _) w7.heap.size 1 (.bool (decide (z < 0)), .slice A7 (canN z.natAbs).length c7) rfl (by go_simp) (by go_simp) rfl rfl (by have := HXL.out; omega) (by simp; omega) ?_))
            intro v8 w8 hown8 hg8 hr8
            have hal : Below w7.heap.size w7 (w7.alloc (.cells #[.bool (decide (z < 0)), .slice A7 (canN z.natAbs).length c7] 65)) := (Below.refl _ _).alloc (Nat.le_refl _) _
            have hrow : ∀ r, (Value.slice AX xs.length cX).ownBlock = some r → r < wo.heap.size := fun r hr => (World.ownsRow.lt HOW.out r hr).2
            have hsn := Apt.snoc (p := (.bool (decide (z < 0)), .slice A7 (canN z.natAbs).length c7)) HP7.out (fun A n c e hn g o ea => by
              injection e with e1 e2 e3
              have h1 := HAD.out g o (by rw [← ea, e1])
              refine ⟨fun h => ?_, h1.2⟩
              have h2 := hrow g h.symm
              omega)
            have hsn2 := (hsn.size hal.size).turn (row' := v8.ownBlock) (by simpa using hr8)
            have HN8 := Lib.hid (AllC.grown (AllC.snoc (p := (.bool (decide (z < 0)), .slice A7 (canN z.natAbs).length c7)) (HN7.out.below hal) (HC7.out.below hal)) hg8 (hsn.size hal.size))
            have HB8 := Lib.hid ((HB7.out.alloc hz7 (.cells #[.bool (decide (z < 0)), .slice A7 (canN z.natAbs).length c7] 65)).grown hg8 (by simp; omega) HO7.out.fresh)
            have HS8 := Lib.hid (hsn2.size (w1 := w8) hg8.size)
            have HO8 := Lib.hid hown8
            clear hal hrow hsn hsn2 hg8 hr8 hown8
            go_wp2_with fail
            go_roundw
            case rel => exact ⟨i + 1, xs ++ [(.bool (decide (z < 0)), .slice A7 (canN z.natAbs).length c7)], by omega, by go_num, HO8.out, Lib.hid ⟨by rw [List.length_append, HXL.out]; rfl, by rw [HTS.out]; exact HN8.out, HS8.out⟩, HB8.out⟩
            case measure => first | (simp [intOf]; done) | (simp [intOf]; omega)
          · have hie : i = j + 1 := by omega
            have k1 : ¬ (i : Int) < (j : Int) + 1 := by omega
            obtain ⟨A6, c6, e6, hc6, hP6⟩ := HOW.out.pa
            have hl := HI.out.1
            have hfin : IsP wo (.slice AX xs.length cX) (trimP zs) := by
              simp only [Value.slice.injEq] at e6
              rw [e6.1]
              refine ⟨A6, cX, xs, rfl, by rw [e6.2.2]; exact hc6, hP6, ?_⟩
              rw [HT.out, ← hie]; exact HI.out.2.1
            have HFN := Lib.hid hfin
            clear hP6 e6 hfin hl
            go_wp2_with fail
            go_ret
            refine ⟨HBB.out, .slice AX xs.length cX, ?_, HFN.out⟩
            first | rfl | (simp; done)
theorem make1_two_own (neg : Bool) (b : Nat) (x y z : Int) (w : World) (hb : b < w.heap.size) (h0 : w.cell? ⟨b, 0, none⟩ = some (.int .u32 x)) (h1 : w.cell? ⟨b, 1, none⟩ = some (.int .u32 y))
    (x0 : 0 ≤ x) (x1 : x < 4294967296) (y0 : 0 ≤ y) (y1 : y < 4294967296) (hz : z = sv neg (x + 4294967296 * y)) :
    Calls Try.prog 89 #[.bool neg, .slice (some ⟨b, 0, none⟩) 2 2] w (ZOwn z w) := by
  have := make1_own neg (some ⟨b, 0, none⟩) [x, y] 2 w (Lim.cons x0 x1 (Lim.cons y0 y1 Lim.nil)) (lat_two hb h0 h1) (by simp) (by simp)
  rw [mv_two, ← hz] at this
  exact this
set_option maxHeartbeats 1000000 in
theorem of_own (n : Int) (w : World) (h1 : -9223372036854775808 ≤ n) (h2 : n ≤ 9223372036854775807) :
    Calls Try.prog 67 #[.int .i64 n] w (ZOwn n w) := by
  rcases Int.lt_or_le n 0 with h | h
  · have e1 : IntKind.u64.wrap (-IntKind.u64.wrap n) = -n := by rw [IntKind.wrap_u64, IntKind.wrap_u64]; omega
    go_enter Try.func67, Try.ntmps67; (try simp only [List.append_eq, List.cons_append, List.nil_append])
    go_wp2_with fail
    clear e1
    -- own blocks: w.heap.size:2
    (go_at_call 89; refine (make1_two_own _ _ (-n % 4294967296) (-n / 4294967296) n _ (by simp) (by go_simp) (by go_simp) (by omega) (by omega) (by omega) (by omega) (by unfold sv; rw [if_pos rfl]; omega)).mono ?_; rintro e w1 ⟨hb_w1, A1, c1, rfl, hc1, hA1⟩; have hz_w1 := hb_w1.size; (try simp at hz_w1); (with_reducible apply cel2 (b := w.heap.size) hb_w1); (focus ((try simp) <;> omega)); (focus omega); (focus (go_simp; try exact rfl)); (focus (go_simp; try exact rfl)); (focus (intro o; go_simp)); intro cc cc fz hl)
    have HC := Lib.hid hc1
    have HA1 := Lib.hid hA1
    clear hc1 hA1
    go_wp2_with fail
    refine bodyPost_ret (v := .agg #[.bool (decide (n < 0)), .slice A1 (canN n.natAbs).length c1]) (by simp only [results, Try.results67]; go_simp) rfl ⟨?_, ?_⟩
    · ((with_reducible (repeat (first | exact bR _ _ | refine bS ?_ ?_ _ | refine bA ?_ ?_ _ | refine bD ?_ | refine bT ?_ (by assumption) ?_ | refine bO (by assumption) ?_ ?_))) <;> (first | omega | (simp; done) | (simp <;> omega)))
    · exact ⟨A1, c1, rfl, HC.out, ((HA1.out.setCell (by simp <;> omega) _).setCell (by simp <;> omega) _).weak (by simp <;> omega)⟩
  · have hn : ¬ n < 0 := by omega
    go_enter Try.func67, Try.ntmps67; (try simp only [List.append_eq, List.cons_append, List.nil_append])
    go_wp2_with fail
    -- own blocks: w.heap.size:2
    (go_at_call 89; refine (make1_two_own _ _ (n % 4294967296) (n / 4294967296) n _ (by simp) (by go_simp) (by go_simp) (by omega) (by omega) (by omega) (by omega) (by unfold sv; rw [if_neg (by simp)]; omega)).mono ?_; rintro e w1 ⟨hb_w1, A1, c1, rfl, hc1, hA1⟩; have hz_w1 := hb_w1.size; (try simp at hz_w1); (with_reducible apply cel2 (b := w.heap.size) hb_w1); (focus ((try simp) <;> omega)); (focus omega); (focus (go_simp; try exact rfl)); (focus (go_simp; try exact rfl)); (focus (intro o; go_simp)); intro cc cc fz hl)
    have HC := Lib.hid hc1
    have HA1 := Lib.hid hA1
    clear hc1 hA1
    go_wp2_with fail
    refine bodyPost_ret (v := .agg #[.bool (decide (n < 0)), .slice A1 (canN n.natAbs).length c1]) (by simp only [results, Try.results67]; go_simp) rfl ⟨?_, ?_⟩
    · ((with_reducible (repeat (first | exact bR _ _ | refine bS ?_ ?_ _ | refine bA ?_ ?_ _ | refine bD ?_ | refine bT ?_ (by assumption) ?_ | refine bO (by assumption) ?_ ?_))) <;> (first | omega | (simp; done) | (simp <;> omega)))
    · exact ⟨A1, c1, rfl, HC.out, ((HA1.out.setCell (by simp <;> omega) _).setCell (by simp <;> omega) _).weak (by simp <;> omega)⟩
set_option maxRecDepth 100000 in
set_option maxHeartbeats 4000000 in
theorem rpolyof_any (A : Option Addr) (ns : List Int) (c : Nat) (w : World) (hA : IAt w A ns) (hn : ns.length ≤ 1000000) (hb : ∀ n ∈ ns, -9223372036854775808 ≤ n ∧ n ≤ 9223372036854775807) :
    Calls Try.prog 70 #[.slice A ns.length c] w (POut (trimP ns) w) := by
  have HA := Lib.hid hA
  have HBD := Lib.hid hb
  obtain ⟨n, hnn⟩ : ∃ n, n = ns.length := ⟨_, rfl⟩
  have HNN := Lib.hid hnn
  rw [← hnn] at hn ⊢
  have n0 : (0 : Int) ≤ (n : Int) := by omega
  have n1 : (n : Int) ≤ 1000000 := by omega
  clear hA hb hnn
  go_enter Try.func70, Try.ntmps70; (try simp only [List.append_eq, List.cons_append, List.nil_append])
  go_wp2_with fail
  go_loopw [3, 4] (fun vm vi wk => ∃ (i : Nat) (xs : List (Value × Value)), i ≤ n ∧ vi = .int .i64 i ∧ OwnP wk w.heap.size vm xs ∧ Hid (xs.length = i ∧ AllC wk xs (ns.take i) ∧ Apt wk vm.ownBlock xs) ∧ Below w.heap.size w wk) (fun _ vi _ => (n - (intOf vi).toNat))
  case atStart => exact ⟨0, [], by omega, rfl, OwnP.nil _ _, Lib.hid ⟨rfl, AllC.nil _, Apt.nil _ _⟩, Below.refl _ _⟩
  case round =>
    obtain ⟨i, xs, hi, rfl, hown, HI, hb2⟩ := hrel
    obtain ⟨wo, rfl⟩ : ∃ wo : World, wo = wr := ⟨_, rfl⟩
    have HOW := Lib.hid hown
    have HB2 := Lib.hid hb2
    have hz2 := hb2.size
    have k0 : (0 : Int) ≤ (i : Int) := by omega
    clear hb2
    obtain ⟨AX, cX, eX, _, _⟩ := hown.pa
    subst eX
    clear hown
    by_cases hij : i < n
    · have k1 : (i : Int) < (n : Int) := by omega
      obtain ⟨z, hzj⟩ : ∃ z, ns[i]? = some z := ⟨ns[i]'(by have := HNN.out; omega), by simp⟩
      obtain ⟨b0, b1⟩ := HBD.out z (List.mem_of_getElem? hzj)
      obtain ⟨g, o, eA, hg, c0⟩ := HA.out.below HB2.out i z hzj
      subst eA
      have HTS := Lib.hid (take_snoc_any hzj)
      clear hzj
      go_wp2_with fail
      -- own blocks: 
      (go_at_call 67; refine (of_own z _ b0 b1).mono ?_; rintro e w7 ⟨hb_w7, A7, c7, rfl, hc7, hA7⟩; have hz_w7 := hb_w7.size; (try simp at hz_w7); skip)
      have HC7 := Lib.hid (show IsC w7 (.agg #[.bool (decide (z < 0)), .slice A7 (canN z.natAbs).length c7]) z from ⟨A7, c7, rfl, hc7, hA7.lat⟩)
      have HAD := Lib.hid hA7.addr
      have HB7 := Lib.hid (HB2.out.trans (hb_w7.mono hz2))
      have hz7 := HB7.out.size
      have HO7 := Lib.hid (HOW.out.below hb_w7)
      have HN7 := Lib.hid (HI.out.2.1.below hb_w7)
      have HP7 := Lib.hid (HI.out.2.2.size hb_w7.size)
      have HXL := Lib.hid HI.out.1
      clear hb_w7 hc7 hA7 c0
      go_wp2_with (at_builtin; go_must (refine wpList_append_pair rfl _ _ rfl w.heap.size _ xs rfl (HO7.out.alloc _) w7.heap.size 1 (.bool (decide (z < 0)), .slice A7 (canN z.natAbs).length c7) rfl (by go_simp) (by go_simp) rfl rfl (by have := HXL.out; omega) (by simp; omega) ?_))
      intro v8 w8 hown8 hg8 hr8
      have hal : Below w7.heap.size w7 (w7.alloc (.cells #[.bool (decide (z < 0)), .slice A7 (canN z.natAbs).length c7] 65)) := (Below.refl _ _).alloc (Nat.le_refl _) _
      have hrow : ∀ r, (Value.slice AX xs.length cX).ownBlock = some r → r < wo.heap.size := fun r hr => (World.ownsRow.lt HOW.out r hr).2
      have hsn := Apt.snoc (p := (.bool (decide (z < 0)), .slice A7 (canN z.natAbs).length c7)) HP7.out (fun A n c e hn g o ea => by
        injection e with e1 e2 e3
        have h1 := HAD.out g o (by rw [← ea, e1])
        refine ⟨fun h => ?_, h1.2⟩
        have h2 := hrow g h.symm
        omega)
      have hsn2 := (hsn.size hal.size).turn (row' := v8.ownBlock) (by simpa using hr8)
      have HN8 := Lib.hid (AllC.grown (AllC.snoc (p := (.bool (decide (z < 0)), .slice A7 (canN z.natAbs).length c7)) (HN7.out.below hal) (HC7.out.below hal)) hg8 (hsn.size hal.size))
      have HB8 := Lib.hid ((HB7.out.alloc hz7 (.cells #[.bool (decide (z < 0)), .slice A7 (canN z.natAbs).length c7] 65)).grown hg8 (by simp; omega) HO7.out.fresh)
      have HS8 := Lib.hid (hsn2.size (w1 := w8) hg8.size)
      have HO8 := Lib.hid hown8
      clear hal hrow hsn hsn2 hg8 hr8 hown8
      go_wp2_with fail
      go_roundw
      case rel => exact ⟨i + 1, xs ++ [(.bool (decide (z < 0)), .slice A7 (canN z.natAbs).length c7)], by omega, by go_num, HO8.out, Lib.hid ⟨by rw [List.length_append, HXL.out]; rfl, by rw [HTS.out]; exact HN8.out, HS8.out⟩, HB8.out⟩
      case measure => first | (simp [intOf]; done) | (simp [intOf]; omega)
    · obtain rfl : i = n := by omega
      have k1 : ¬ (i : Int) < (i : Int) := by omega
      obtain ⟨A6, c6, e6, hc6, hP6⟩ := HOW.out.pa
      have hf := HI.out.2.1
      rw [List.take_of_length_le (l := ns) (by have := HNN.out; omega)] at hf
      simp only [Value.slice.injEq] at e6
      rw [← e6.1] at hP6
      have htr := rtrimp_any 2 AX xs ns cX wo hP6 hf (by have := HI.out.1; omega) (fun z hz => canN_len.2 (by rw [show PB 2 = 18446744073709551616 from by decide]; have := HBD.out z hz; omega)) (by omega)
      have HTR := Lib.hid htr
      clear hf hP6 hij htr e6 hc6
      go_wp2_with fail
      -- own blocks: 
      (go_at_call 87; refine (HTR.out).mono ?_; rintro e w7 ⟨hb_w7, v7, rfl, hv7⟩; have hz_w7 := hb_w7.size; (try simp at hz_w7); skip)
      have HV7 := Lib.hid hv7
      obtain ⟨A7, c7, vs7, rfl, _, _, _⟩ := hv7
      go_wp2_with fail
      go_ret
      refine ⟨HB2.out.trans (hb_w7.mono hz2), .slice A7 vs7.length c7, ?_, HV7.out⟩
      first | rfl | (simp; done)
set_option maxRecDepth 100000 in
set_option maxHeartbeats 4000000 in
theorem rsamep_any (N : Nat) (u v : Value) (zs : List Int) (w : World) (hu : IsP w u zs) (hv : IsP w v zs) (hn : zs.length ≤ 1000000) (hl : ∀ z ∈ zs, (canN z.natAbs).length ≤ N) (hN : N ≤ 1000000) :
    Calls Try.prog 27 #[u, v] w fun e w' => e = .returned (.bool true) ∧ Below w.heap.size w w' := by
  obtain ⟨A, c, vs, rfl, hc, hA, hz⟩ := hu
  obtain ⟨B, d, us, rfl, hd, hB, hy⟩ := hv
  have l1 : vs.length = zs.length := hz.1
  have l2 : us.length = zs.length := hy.1
  have HA := Lib.hid hA
  have HB := Lib.hid hB
  have HZ := Lib.hid hz
  have HY := Lib.hid hy
  have HL := Lib.hid hl
  rw [l1, l2]
  have HLL := Lib.hid (And.intro l1 l2)
  obtain ⟨n, hnn⟩ : ∃ n, n = zs.length := ⟨_, rfl⟩
  have HNN := Lib.hid hnn
  rw [← hnn] at hn ⊢
  have n0 : (0 : Int) ≤ (n : Int) := by omega
  have n1 : (n : Int) ≤ 1000000 := by omega
  clear hA hB hz hy hl l1 l2 hnn hc hd
  go_enter Try.func27, Try.ntmps27; (try simp only [List.append_eq, List.cons_append, List.nil_append])
  go_wp2_with fail
  go_loopw [5] (fun vi wk => ∃ i : Nat, i ≤ n ∧ vi = .int .i64 i ∧ Below w.heap.size w wk) (fun vi _ => (n - (intOf vi).toNat))
  case atStart => exact ⟨0, by omega, rfl, Below.refl _ _⟩
  case round =>
    obtain ⟨i, hi, rfl, hb2⟩ := hrel
    obtain ⟨wo, rfl⟩ : ∃ wo : World, wo = wr := ⟨_, rfl⟩
    have HB2 := Lib.hid hb2
    have hz2 := hb2.size
    have k0 : (0 : Int) ≤ (i : Int) := by omega
    clear hb2
    by_cases hij : i < n
    · have k1 : (i : Int) < (n : Int) := by omega
      obtain ⟨x, y, z, hp, hzj, hC⟩ := get_both HZ.out (j := i) (by have := HNN.out; have := HLL.out; omega)
      obtain ⟨x', y', z', hp', hzj', hC'⟩ := get_both HY.out (j := i) (by have := HNN.out; have := HLL.out; omega)
      have hzz : z' = z := by rw [hzj] at hzj'; injection hzj' with h; exact h.symm
      subst hzz
      obtain ⟨g, o, eA, hg, c0, c1⟩ := HA.out.below HB2.out i _ hp
      obtain ⟨g', o', eB, hg', d0, d1⟩ := HB.out.below HB2.out i _ hp'
      subst eA eB
      simp only at c0 c1 d0 d1
      have hlz := HL.out z' (List.mem_of_getElem? hzj)
      have hsm := fun w' (h : Below wo.heap.size wo w') => same_any _ _ z' z' w' ((hC.below HB2.out).below h) ((hC'.below HB2.out).below h) (by omega) (by omega)
      rw [decide_eq_true rfl] at hsm
      obtain ⟨A', c', rfl, rfl, _, _⟩ := isC_shape hC
      obtain ⟨B', d', rfl, rfl, _, _⟩ := isC_shape hC'
      have HSM := Lib.hid hsm
      clear hp hp' hzj hzj' hC hC' hsm hlz
      go_wp2_with fail
      -- own blocks: 
      (refine pin_wp (N := _) (Nat.le_refl _) (fun w3 hb_w3 hz_w3 => ?_); (try simp at hz_w3); skip); refine wp_region_float w3.heap.size 10 (Nat.le_refl _) (fun _ => True) trivial Cl.tt (by kernel_rfl) (by simp) ?_
      have HW3 := Lib.hid hb_w3
      have c0 := (HW3.out.cell (p := ⟨g, o + i * 2, none⟩) hg).trans c0
      have c1 := (HW3.out.cell (p := ⟨g, o + i * 2 + 1, none⟩) hg).trans c1
      have d0 := (HW3.out.cell (p := ⟨g', o' + i * 2, none⟩) hg').trans d0
      have d1 := (HW3.out.cell (p := ⟨g', o' + i * 2 + 1, none⟩) hg').trans d1
      have hg := Nat.lt_of_lt_of_le hg HW3.out.size
      have hg' := Nat.lt_of_lt_of_le hg' HW3.out.size
      clear hb_w3
      refine wpI_start [0, 1, 2, 3, 4, 5, 6, 7, 8, 9] ?_; (iterate 10 (first | (refine wpI_off rfl (by kernel_rfl) rfl (fun K hK => ?_); go_simp; refine hK _ ?_; clear hK K) | ((first | apply wpI_step rfl (by kernel_rfl) rfl | apply wpI_on rfl (by kernel_rfl) rfl); (focus (intro W' hS; have hcS := hS.cells.1; have hfS := hS.cells.2; go_simp; (first | done | exact rfl | exact ⟨rfl, Below.refl _ _⟩ | (go_at_call 68; exact (HSM.out _ (HW3.out.trans (hS.2.mono HW3.out.size))).mono (fun _ _ h => ⟨h.1, h.2⟩)) | (go_simp; first | done | exact rfl | exact ⟨rfl, Below.refl _ _⟩)))); intro K hK; go_simp; (try go_bits); refine hK _ ?_; clear hK K))); refine wpI_nil ?_
      refine wpF_done (by kernel_rfl) ?_
      intro w4 hF_w4 hSG
      have hz_w4 := hSG.1.1
      have hb_w4 := hSG.1.2
      clear hSG
      skip
      (try simp only [List.drop_succ_cons, List.drop_zero])
      have HB4 := Lib.hid (HB2.out.trans ((HW3.out.trans (hb_w4.mono HW3.out.size)).mono hz2))
      clear hb_w4
      go_wp2_with fail
      go_roundw
      case rel => exact ⟨i + 1, by omega, by go_num, HB4.out⟩
      case measure => first | (simp [intOf]; done) | (simp [intOf]; omega)
    · obtain rfl : i = n := by omega
      have k1 : ¬ (i : Int) < (i : Int) := by omega
      clear hij
      go_wp2_with fail
      go_ret
      exact ⟨rfl, HB2.out⟩
end Go.Proofs.Ytkoejgpnlncgaaa
