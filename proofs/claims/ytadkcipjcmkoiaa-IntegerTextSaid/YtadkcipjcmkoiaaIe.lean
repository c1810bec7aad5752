/- The contract of integer.Parse. -/
import Derived.Test.YtadkcipjcmkoiaaId
namespace Go.Proofs.Ytadkcipjcmkoiaa
open Go Go.RowKit
set_option linter.unusedVariables false
theorem IsC.set2 {w : World} {v : Value} {z : Int} (h : IsC w v z) {b : Nat} {b0 : Bool} {a : Option Addr} {n c : Nat} (h0 : w.cell? ⟨b, 0, none⟩ = some (.bool b0)) (h1 : w.cell? ⟨b, 1, none⟩ = some (.slice a n c)) (x y : Value) :
    IsC ((w.setCell ⟨b, 0, none⟩ x).setCell ⟨b, 1, none⟩ y) v z := by
  obtain ⟨A, d, h2, h3, h4⟩ := h
  exact ⟨A, d, h2, h3, h4.set2 h0 h1 x y⟩
/-- A text begins with a sign; its digits. -/
def negS (l : List UInt8) : Bool := match l with
  | b :: _ => b == 45
  | [] => false
def digS (l : List UInt8) : List UInt8 := if negS l = true then l.drop 1 else l
def digB (b : UInt8) : Bool := decide (48 ≤ b.toNat ∧ b.toNat ≤ 57)
def okS (d : List UInt8) : Bool := !d.isEmpty && d.all digB
/-- The results of Parse. -/
def parseR (l : List UInt8) : Int × Int := if okS (digS l) = false then (0, 4) else if 3000 < l.length then (0, 2) else sizedR (if negS l = true then -valI (digS l) else valI (digS l))
theorem dig_of {d : List UInt8} (h : d.all digB = true) : Dig d := fun b hb => by
  have := List.all_eq_true.1 h b hb
  simpa [digB] using this
theorem empty_size (t : ByteArray) : t.toList.isEmpty = decide (t.size = 0) := by
  rw [ByteArray.toList_eq]
  have h : t.data.toList.length = t.size := by simp
  cases hd : t.data.toList with
  | nil => rw [hd] at h; simp at h; simp [← h]
  | cons a l =>
    rw [hd] at h
    simp at h
    show false = _
    rw [eq_comm, decide_eq_false_iff_not]
    omega
set_option maxRecDepth 100000 in
set_option maxHeartbeats 4000000 in
theorem iparse_any (s : ByteArray) (w : World) (hs : s.size ≤ 100000) :
    Calls Try.prog 12 #[.string s] w (EOut (parseR s.data.toList).1 (parseR s.data.toList).2 w) := by
  have hsz : s.data.toList.length = s.size := by simp
  have HSZ := Lib.hid hsz
  have s0 : (0 : Int) ≤ (s.size : Int) := by omega
  have s1 : (s.size : Int) ≤ 100000 := by omega
  clear hsz
  by_cases h0 : s.size = 0
  · have e : parseR s.data.toList = (0, 4) := by
      have : s.data.toList = [] := List.length_eq_zero_iff.1 (by rw [HSZ.out]; exact h0)
      rw [this]; rfl
    rw [e]
    have i0 : ¬ (0 : Int) < (s.size : Int) := by omega
    have i1 : decide ((0 : Int) < (s.size : Int)) = false := decide_eq_false i0
    have i2 : decide (0 < s.size) = false := by rw [decide_eq_false_iff_not]; omega
    have i3 : s.toList.isEmpty = true := by rw [empty_size, decide_eq_true h0]
    clear e h0
    go_enter Try.func12, Try.ntmps12; (try simp only [List.append_eq, List.cons_append, List.nil_append])
    go_wp2_with fail
    refine bodyPost_ret (v := .tuple #[.agg #[.bool false, .slice none 0 0], .int .i64 4]) (by simp only [results, Try.results12]; go_simp) rfl (eout_zero ?_)
    ((with_reducible (repeat (first | exact bR _ _ | refine bS ?_ ?_ _ | refine bA ?_ ?_ _ | refine bD ?_ | refine bT ?_ (by assumption) ?_ | refine bO (by assumption) ?_ ?_))) <;> (first | omega | (simp; done) | (simp <;> omega)))
  · have i0 : (0 : Int) < (s.size : Int) := by omega
    have i1 : decide ((0 : Int) < (s.size : Int)) = true := decide_eq_true i0
    have i2 : decide (0 < s.size) = true := by rw [decide_eq_true_eq]; omega
    have i3 : 0 < s.size := by omega
    have hhd : s.data.toList[0]? = some s[0] := by
      rw [List.getElem?_eq_getElem (by rw [HSZ.out]; exact i3)]; rfl
    have hneg : negS s.data.toList = ((s[0].toNat : Int) == 45) := by
      cases hd : s.data.toList with
      | nil => rw [hd] at hhd; simp at hhd
      | cons a l =>
        rw [hd] at hhd
        simp at hhd
        subst hhd
        show (s[0] == 45) = _
        rw [Bool.eq_iff_iff, beq_iff_eq, beq_iff_eq]
        constructor
        · intro h; rw [h]; rfl
        · intro h
          apply UInt8.toNat_inj.1
          have : (45 : UInt8).toNat = 45 := rfl
          omega
    by_cases hm : ((s[0].toNat : Int) == 45) = true
    · rw [hm] at hneg
      have hdS : digS s.data.toList = s.data.toList.drop 1 := by unfold digS; rw [hneg]; rfl
      obtain ⟨t, ht⟩ : ∃ t, t = s.extract 1 s.size := ⟨_, rfl⟩
      have htl : t.data.toList = digS s.data.toList := by rw [hdS, ht, Go.Lib.extract_to_end]
      have hts : t.size + 1 = s.size := by rw [ht, ByteArray.size_extract]; omega
      have htt := Lib.hid (show t.data.toList.length = t.size by simp)
      have hem := empty_size (s.extract 1 s.size)
      have j0 : (1 : Int) ≤ (s.size : Int) := by omega
      by_cases ht0 : t.size = 0
      · have e : parseR s.data.toList = (0, 4) := by
          unfold parseR
          have : digS s.data.toList = [] := by rw [← htl]; exact List.length_eq_zero_iff.1 (by rw [htt.out]; exact ht0)
          rw [this]; rfl
        rw [e]
        rw [← ht, decide_eq_true ht0, ht] at hem
        clear e ht htl hts hdS hneg hhd htt
        go_enter Try.func12, Try.ntmps12; (try simp only [List.append_eq, List.cons_append, List.nil_append])
        go_wp2_with fail
        refine bodyPost_ret (v := .tuple #[.agg #[.bool false, .slice none 0 0], .int .i64 4]) (by simp only [results, Try.results12]; go_simp) rfl (eout_zero ?_)
        ((with_reducible (repeat (first | exact bR _ _ | refine bS ?_ ?_ _ | refine bA ?_ ?_ _ | refine bD ?_ | refine bT ?_ (by assumption) ?_ | refine bO (by assumption) ?_ ?_))) <;> (first | omega | (simp; done) | (simp <;> omega)))
      · have hem0 := hem
        rw [← ht, decide_eq_false ht0, ht] at hem
        have HTL := Lib.hid htl
        have HNG := Lib.hid hneg
        have HTT := Lib.hid htt.out
        have HT0 := Lib.hid ht0
        have t1 : (t.size : Int) ≤ 100000 := by omega
        have t0 : (0 : Int) < (t.size : Int) := by omega
        clear htl hdS hneg hhd htt hts hem0 ht0
        go_enter Try.func12, Try.ntmps12; (try simp only [List.append_eq, List.cons_append, List.nil_append])
        go_wp2_with fail
        rw [← ht]
        clear hem hm ht
        go_loop [6] (fun vi => ∃ i : Nat, i ≤ t.size ∧ vi = .int .i64 i ∧ Hid ((t.data.toList.take i).all digB = true)) (fun vi => t.size - (intOf vi).toNat)
        case atStart => exact ⟨0, by omega, rfl, Lib.hid rfl⟩
        case round =>
          obtain ⟨i, hi, rfl, HI⟩ := hrel
          have k0 : (0 : Int) ≤ (i : Int) := by omega
          by_cases hit : i < t.size
          · have hbyte : t.data.toList[i]? = some (t[i]) := by
              rw [List.getElem?_eq_getElem (by rw [HTT.out]; exact hit)]; rfl
            obtain ⟨b, hb⟩ : ∃ b : Int, b = ((t[i]).toNat : Int) := ⟨_, rfl⟩
            have b0 : 0 ≤ b := by omega
            have HAL := Lib.hid (show (t.data.toList.take (i + 1)).all digB = digB (t[i]) by
              rw [List.take_add_one, hbyte]
              show ((t.data.toList.take i) ++ [t[i]]).all digB = _
              rw [List.all_append, HI.out]; simp)
            have j1 : (i : Int) < (t.size : Int) := by omega
            have HDB := Lib.hid (show digB (t[i]) = decide (48 ≤ b ∧ b ≤ 57) by unfold digB; rw [hb]; apply decide_eq_decide.2; omega)
            have HBY := Lib.hid hbyte
            have hb' := hb.symm
            clear hb hbyte
            by_cases hd : 48 ≤ b ∧ b ≤ 57
            · obtain ⟨d0, d1⟩ := hd
              have d2 : ¬ b < 48 := by omega
              have d3 : ¬ 57 < b := by omega
              have d4 : decide (b < 48) = false := decide_eq_false d2
              have d5 : decide (57 < b) = false := decide_eq_false d3
              have HA1 := Lib.hid (show (t.data.toList.take (i + 1)).all digB = true by rw [HAL.out, HDB.out]; exact decide_eq_true ⟨d0, d1⟩)
              go_wp2_with fail
              go_round
              case rel => exact ⟨i + 1, by omega, by go_num, HA1⟩
              case measure => simp [intOf]; omega
            · have e : parseR s.data.toList = (0, 4) := by
                unfold parseR okS
                rw [if_pos]
                rw [← HTL.out]
                have : t.data.toList.all digB = false := by
                  rw [List.all_eq_false]
                  refine ⟨_, List.mem_of_getElem? HBY.out, ?_⟩
                  rw [HDB.out]; simpa using hd
                rw [this]; simp
              have HE := Lib.hid e
              by_cases d2 : b < 48
              · have d4 : decide (b < 48) = true := decide_eq_true d2
                clear e hd
                go_wp2_with fail
                rw [HE.out]
                refine bodyPost_ret (v := .tuple #[.agg #[.bool false, .slice none 0 0], .int .i64 4]) (by simp only [results, Try.results12]; go_simp) rfl (eout_zero ?_)
                ((with_reducible (repeat (first | exact bR _ _ | refine bS ?_ ?_ _ | refine bA ?_ ?_ _ | refine bD ?_ | refine bT ?_ (by assumption) ?_ | refine bO (by assumption) ?_ ?_))) <;> (first | omega | (simp; done) | (simp <;> omega)))
              · have d3 : 57 < b := by omega
                have d4 : decide (b < 48) = false := decide_eq_false d2
                have d5 : decide (57 < b) = true := decide_eq_true d3
                clear e hd
                go_wp2_with fail
                rw [HE.out]
                refine bodyPost_ret (v := .tuple #[.agg #[.bool false, .slice none 0 0], .int .i64 4]) (by simp only [results, Try.results12]; go_simp) rfl (eout_zero ?_)
                ((with_reducible (repeat (first | exact bR _ _ | refine bS ?_ ?_ _ | refine bA ?_ ?_ _ | refine bD ?_ | refine bT ?_ (by assumption) ?_ | refine bO (by assumption) ?_ ?_))) <;> (first | omega | (simp; done) | (simp <;> omega)))
          · obtain rfl : i = t.size := by omega
            have hall : t.data.toList.all digB = true := by
              have h1 := HI.out
              rwa [List.take_of_length_le (by rw [HTT.out]; exact Nat.le_refl _)] at h1
            have hok : okS (digS s.data.toList) = true := by
              rw [← HTL.out]
              unfold okS
              rw [hall]
              have : t.data.toList.isEmpty = false := by
                cases hd : t.data.toList with
                | nil => exfalso; apply HT0.out; rw [← HTT.out, hd]; rfl
                | cons a l => rfl
              rw [this]; rfl
            have hdig := dig_of hall
            have j1 : ¬ (t.size : Int) < (t.size : Int) := by omega
            by_cases hbig : 3000 < s.size
            · have e : parseR s.data.toList = (0, 2) := by
                unfold parseR
                rw [hok, if_neg (by simp), if_pos (by rw [HSZ.out]; exact hbig)]
              have HE := Lib.hid e
              have j2 : (3000 : Int) < (s.size : Int) := by omega
              clear e hall hok hdig
              go_wp2_with fail
              rw [HE.out]
              refine bodyPost_ret (v := .tuple #[.agg #[.bool false, .slice none 0 0], .int .i64 2]) (by simp only [results, Try.results12]; go_simp) rfl (eout_zero ?_)
              ((with_reducible (repeat (first | exact bR _ _ | refine bS ?_ ?_ _ | refine bA ?_ ?_ _ | refine bD ?_ | refine bT ?_ (by assumption) ?_ | refine bO (by assumption) ?_ ?_))) <;> (first | omega | (simp; done) | (simp <;> omega)))
            · have e : parseR s.data.toList = sizedR (-valI t.data.toList) := by
                unfold parseR
                rw [hok, if_neg (by simp), if_neg (by rw [HSZ.out]; exact hbig), HNG.out, ← HTL.out]
                rfl
              have j2 : ¬ (3000 : Int) < (s.size : Int) := by omega
              have hdg := fun w' => wdigits_any t w' (by omega) (by  exact hdig)
              obtain ⟨V, hV⟩ : ∃ V, V = valI t.data.toList := ⟨_, rfl⟩
              have hvl : (canN V.natAbs).length ≤ 100000 := by
                obtain ⟨v0, v1⟩ := valI_bd hdig
                have hv : V = valI t.data.toList := by rw [hV]
                rw [← hv, HTT.out] at v1
                rw [← hv] at v0
                refine canN_len.2 ?_
                have h1 : (10 : Int) ^ t.size ≤ PB t.size := by
                  unfold PB
                  have := Nat.pow_le_pow_left (show 10 ≤ 4294967296 by decide) t.size
                  have h2 := Int.ofNat_le.2 this
                  rwa [Int.natCast_pow, Int.natCast_pow] at h2
                have h2 := PB_mono (show t.size ≤ 100000 by omega)
                omega
              rw [← hV] at hdg
              have HDG := Lib.hid hdg
              have HVL := Lib.hid hvl
              have hV2 : valI t.data.toList = V := by rw [hV]
              rw [hV2] at e
              have HE := Lib.hid e
              clear e hall hok hdig hdg hvl hV hV2
              obtain ⟨M, hM⟩ : ∃ M, M = -V := ⟨_, rfl⟩
              have hng := fun v w' h => wneg_any 100000 v V w' h (by omega)
              rw [← hM] at hng
              obtain ⟨r1, r2, hr⟩ : ∃ r1 r2, sizedR M = (r1, r2) := ⟨_, _, rfl⟩
              have hsz := fun v w' h => sized_any 100000 v M w' h (by rw [hM, Int.natAbs_neg]; exact HVL.out) (by omega)
              rw [hr] at hsz
              have HE := Lib.hid (show parseR s.data.toList = (r1, r2) by rw [HE.out, ← hr, hM])
              have HSR := Lib.hid hsz
              have HNG2 := Lib.hid hng
              clear hsz hr hM hng
              -- own blocks: w.heap.size:2
              go_wp2_with fail
              (go_at_call 46; refine (HDG.out _).mono ?_; rintro e w1 ⟨hb_w1, v1, rfl, hv1⟩; have hz_w1 := hb_w1.size; (try simp at hz_w1); (with_reducible apply cel2 (b := w.heap.size) hb_w1); (focus ((try simp) <;> omega)); (focus omega); (focus (go_simp; try exact rfl)); (focus (go_simp; try exact rfl)); (focus (intro o; go_simp)); intro cc cc fz hl)
              have HV1 := Lib.hid hv1
              have HB1 := Lib.hid (show Below w.heap.size w w1 by ((with_reducible (repeat (first | exact bR _ _ | refine bS ?_ ?_ _ | refine bA ?_ ?_ _ | refine bD ?_ | refine bT ?_ (by assumption) ?_ | refine bO (by assumption) ?_ ?_))) <;> (first | omega | (simp; done) | (simp <;> omega))))
              obtain ⟨A1, c1, rfl, _, _⟩ := hv1
              go_wp2_with fail
              -- own blocks besides: w1.heap.size:2
              (go_at_call 47; refine (HNG2.out _ _ ((HV1.out.below ((Below.refl _ _).alloc (Nat.le_refl _) _)).zl HVL.out)).mono ?_; rintro e w2 ⟨hb_w2, v2, rfl, hv2⟩; have hz_w2 := hb_w2.size; (try simp at hz_w2); (with_reducible apply cel2 (b := w.heap.size) hb_w2); (focus ((try simp) <;> omega)); (focus omega); (focus (go_simp; try exact rfl)); (focus (go_simp; try exact rfl)); (focus (intro o; go_simp)); intro cc cc fz hl; (with_reducible apply cel2 (b := w1.heap.size) hb_w2); (focus ((try simp) <;> omega)); (focus omega); (focus (go_simp; try exact rfl)); (focus (go_simp; try exact rfl)); (focus (intro o; go_simp)); intro cc cc fz hl)
              have HV2 := Lib.hid hv2
              obtain ⟨A2, c2, rfl, _, _⟩ := hv2
              have HIC := Lib.hid (HV2.out.set2 (b := w1.heap.size) (by assumption) (by assumption) (.bool (decide (M < 0))) (.slice A2 (canN M.natAbs).length c2))
              go_wp2_with fail
              (go_at_call 48; refine (HSR.out _ _ HIC.out).mono ?_; rintro e w3 ⟨hb_w3, A3, c3, rfl, hc3, hA3⟩; have hz_w3 := hb_w3.size; (try simp at hz_w3); (with_reducible apply cel2 (b := w.heap.size) hb_w3); (focus ((try simp) <;> omega)); (focus omega); (focus (go_simp; try exact rfl)); (focus (go_simp; try exact rfl)); (focus (intro o; go_simp)); intro cc cc fz hl; (with_reducible apply cel2 (b := w1.heap.size) hb_w3); (focus ((try simp) <;> omega)); (focus omega); (focus (go_simp; try exact rfl)); (focus (go_simp; try exact rfl)); (focus (intro o; go_simp)); intro cc cc fz hl)
              have HC3 := Lib.hid hc3
              have HA3 := Lib.hid hA3
              clear hc3 hA3
              go_wp2_with fail
              rw [HE.out]
              refine bodyPost_ret (v := .tuple #[.agg #[.bool (decide (r1 < 0)), .slice A3 (canN r1.natAbs).length c3], .int .i64 r2]) (by simp only [results, Try.results12]; go_simp) rfl ⟨?_, ?_⟩
              · exact HB1.out.trans (by ((with_reducible (repeat (first | exact bR _ _ | refine bS ?_ ?_ _ | refine bA ?_ ?_ _ | refine bD ?_ | refine bT ?_ (by assumption) ?_ | refine bO (by assumption) ?_ ?_))) <;> (first | omega | (simp; done) | (simp <;> omega))))
              · exact ⟨A3, c3, rfl, HC3.out, HA3.out.set2 (by assumption) (by assumption) _ _⟩
    · have hm2 : ((s[0].toNat : Int) == 45) = false := by simpa using hm
      rw [hm2] at hneg
      have hdS : digS s.data.toList = s.data.toList := by unfold digS; rw [hneg]; rfl
      have hem : s.toList.isEmpty = false := by rw [empty_size, decide_eq_false h0]
      obtain ⟨t, ht⟩ : ∃ t, t = s := ⟨_, rfl⟩
      have HTL := Lib.hid (show t.data.toList = digS s.data.toList by rw [ht]; exact hdS.symm)
      have HNG := Lib.hid hneg
      have HTT := Lib.hid (show t.data.toList.length = t.size by simp)
      have HT0 := Lib.hid (show ¬ t.size = 0 by rw [ht]; exact h0)
      have t1 : (t.size : Int) ≤ 100000 := by rw [ht]; exact s1
      have t0 : (0 : Int) < (t.size : Int) := by rw [ht]; exact i0
      clear hdS hneg hhd hm h0
      go_enter Try.func12, Try.ntmps12; (try simp only [List.append_eq, List.cons_append, List.nil_append])
      go_wp2_with fail
      clear hem hm2
      go_loop [6] (fun vi => ∃ i : Nat, i ≤ s.size ∧ vi = .int .i64 i ∧ Hid ((t.data.toList.take i).all digB = true)) (fun vi => s.size - (intOf vi).toNat)
      case atStart => exact ⟨0, by omega, rfl, Lib.hid rfl⟩
      case round =>
        obtain ⟨i, hi, rfl, HI⟩ := hrel
        have k0 : (0 : Int) ≤ (i : Int) := by omega
        by_cases hit : i < s.size
        · have hbyte : t.data.toList[i]? = some (s[i]) := by
            subst ht
            rw [List.getElem?_eq_getElem (by rw [HTT.out]; exact hit)]; rfl
          obtain ⟨b, hb⟩ : ∃ b : Int, b = ((s[i]).toNat : Int) := ⟨_, rfl⟩
          have b0 : 0 ≤ b := by omega
          have HAL := Lib.hid (show (t.data.toList.take (i + 1)).all digB = digB (s[i]) by
            rw [List.take_add_one, hbyte]
            show ((t.data.toList.take i) ++ [s[i]]).all digB = _
            rw [List.all_append, HI.out]; simp)
          have j1 : (i : Int) < (s.size : Int) := by omega
          have HDB := Lib.hid (show digB (s[i]) = decide (48 ≤ b ∧ b ≤ 57) by unfold digB; rw [hb]; apply decide_eq_decide.2; omega)
          have HBY := Lib.hid hbyte
          have hb' := hb.symm
          clear hb hbyte
          by_cases hd : 48 ≤ b ∧ b ≤ 57
          · obtain ⟨d0, d1⟩ := hd
            have d2 : ¬ b < 48 := by omega
            have d3 : ¬ 57 < b := by omega
            have d4 : decide (b < 48) = false := decide_eq_false d2
            have d5 : decide (57 < b) = false := decide_eq_false d3
            have HA1 := Lib.hid (show (t.data.toList.take (i + 1)).all digB = true by rw [HAL.out, HDB.out]; exact decide_eq_true ⟨d0, d1⟩)
            go_wp2_with fail
            go_round
            case rel => exact ⟨i + 1, by omega, by go_num, HA1⟩
            case measure => simp [intOf]; omega
          · have e : parseR s.data.toList = (0, 4) := by
              unfold parseR okS
              rw [if_pos]
              rw [← HTL.out]
              have : t.data.toList.all digB = false := by
                rw [List.all_eq_false]
                refine ⟨_, List.mem_of_getElem? HBY.out, ?_⟩
                rw [HDB.out]; simpa using hd
              rw [this]; simp
            have HE := Lib.hid e
            by_cases d2 : b < 48
            · have d4 : decide (b < 48) = true := decide_eq_true d2
              clear e hd
              go_wp2_with fail
              rw [HE.out]
              refine bodyPost_ret (v := .tuple #[.agg #[.bool false, .slice none 0 0], .int .i64 4]) (by simp only [results, Try.results12]; go_simp) rfl (eout_zero ?_)
              ((with_reducible (repeat (first | exact bR _ _ | refine bS ?_ ?_ _ | refine bA ?_ ?_ _ | refine bD ?_ | refine bT ?_ (by assumption) ?_ | refine bO (by assumption) ?_ ?_))) <;> (first | omega | (simp; done) | (simp <;> omega)))
            · have d3 : 57 < b := by omega
              have d4 : decide (b < 48) = false := decide_eq_false d2
              have d5 : decide (57 < b) = true := decide_eq_true d3
              clear e hd
              go_wp2_with fail
              rw [HE.out]
              refine bodyPost_ret (v := .tuple #[.agg #[.bool false, .slice none 0 0], .int .i64 4]) (by simp only [results, Try.results12]; go_simp) rfl (eout_zero ?_)
              ((with_reducible (repeat (first | exact bR _ _ | refine bS ?_ ?_ _ | refine bA ?_ ?_ _ | refine bD ?_ | refine bT ?_ (by assumption) ?_ | refine bO (by assumption) ?_ ?_))) <;> (first | omega | (simp; done) | (simp <;> omega)))
        · obtain rfl : i = s.size := by omega
          have hall : t.data.toList.all digB = true := by
            have h1 := HI.out
            rwa [List.take_of_length_le (by rw [HTT.out]; rw [ht]; exact Nat.le_refl _)] at h1
          have hok : okS (digS s.data.toList) = true := by
            rw [← HTL.out]
            unfold okS
            rw [hall]
            have : t.data.toList.isEmpty = false := by
              cases hd : t.data.toList with
              | nil => exfalso; apply HT0.out; rw [← HTT.out, hd]; rfl
              | cons a l => rfl
            rw [this]; rfl
          have hdig := dig_of hall
          have j1 : ¬ (s.size : Int) < (s.size : Int) := by omega
          by_cases hbig : 3000 < s.size
          · have e : parseR s.data.toList = (0, 2) := by
              unfold parseR
              rw [hok, if_neg (by simp), if_pos (by rw [HSZ.out]; exact hbig)]
            have HE := Lib.hid e
            have j2 : (3000 : Int) < (s.size : Int) := by omega
            clear e hall hok hdig
            go_wp2_with fail
            rw [HE.out]
            refine bodyPost_ret (v := .tuple #[.agg #[.bool false, .slice none 0 0], .int .i64 2]) (by simp only [results, Try.results12]; go_simp) rfl (eout_zero ?_)
            ((with_reducible (repeat (first | exact bR _ _ | refine bS ?_ ?_ _ | refine bA ?_ ?_ _ | refine bD ?_ | refine bT ?_ (by assumption) ?_ | refine bO (by assumption) ?_ ?_))) <;> (first | omega | (simp; done) | (simp <;> omega)))
          · have e : parseR s.data.toList = sizedR (valI t.data.toList) := by
              unfold parseR
              rw [hok, if_neg (by simp), if_neg (by rw [HSZ.out]; exact hbig), HNG.out, ← HTL.out]
              rfl
            have j2 : ¬ (3000 : Int) < (s.size : Int) := by omega
            have hdg := fun w' => wdigits_any s w' (by omega) (by rw [← ht]; exact hdig)
            obtain ⟨V, hV⟩ : ∃ V, V = valI s.data.toList := ⟨_, rfl⟩
            have hvl : (canN V.natAbs).length ≤ 100000 := by
              obtain ⟨v0, v1⟩ := valI_bd hdig
              have hv : V = valI t.data.toList := by rw [hV, ht]
              rw [← hv, HTT.out] at v1
              rw [← hv] at v0
              refine canN_len.2 ?_
              have h1 : (10 : Int) ^ t.size ≤ PB t.size := by
                unfold PB
                have := Nat.pow_le_pow_left (show 10 ≤ 4294967296 by decide) t.size
                have h2 := Int.ofNat_le.2 this
                rwa [Int.natCast_pow, Int.natCast_pow] at h2
              have h2 := PB_mono (show t.size ≤ 100000 by omega)
              omega
            rw [← hV] at hdg
            have HDG := Lib.hid hdg
            have HVL := Lib.hid hvl
            have hV2 : valI t.data.toList = V := by rw [hV, ht]
            rw [hV2] at e
            have HE := Lib.hid e
            clear e hall hok hdig hdg hvl hV hV2
            obtain ⟨r1, r2, hr⟩ : ∃ r1 r2, sizedR V = (r1, r2) := ⟨_, _, rfl⟩
            have HE := Lib.hid (HE.out.trans hr)
            have hsz := fun v w' h => sized_any 100000 v V w' h HVL.out (by omega)
            rw [hr] at hsz
            have HSR := Lib.hid hsz
            clear hsz hr
            -- own blocks: w.heap.size:2
            go_wp2_with fail
            (go_at_call 46; refine (HDG.out _).mono ?_; rintro e w1 ⟨hb_w1, v1, rfl, hv1⟩; have hz_w1 := hb_w1.size; (try simp at hz_w1); (with_reducible apply cel2 (b := w.heap.size) hb_w1); (focus ((try simp) <;> omega)); (focus omega); (focus (go_simp; try exact rfl)); (focus (go_simp; try exact rfl)); (focus (intro o; go_simp)); intro cc cc fz hl)
            have HV1 := Lib.hid hv1
            have HB1 := Lib.hid (show Below w.heap.size w w1 by ((with_reducible (repeat (first | exact bR _ _ | refine bS ?_ ?_ _ | refine bA ?_ ?_ _ | refine bD ?_ | refine bT ?_ (by assumption) ?_ | refine bO (by assumption) ?_ ?_))) <;> (first | omega | (simp; done) | (simp <;> omega))))
            obtain ⟨A1, c1, rfl, _, _⟩ := hv1
            go_wp2_with fail
            (go_at_call 48; refine (HSR.out _ _ (HV1.out.below ((Below.refl _ _).alloc (Nat.le_refl _) _))).mono ?_; rintro e w3 ⟨hb_w3, A3, c3, rfl, hc3, hA3⟩; have hz_w3 := hb_w3.size; (try simp at hz_w3); (with_reducible apply cel2 (b := w.heap.size) hb_w3); (focus ((try simp) <;> omega)); (focus omega); (focus (go_simp; try exact rfl)); (focus (go_simp; try exact rfl)); (focus (intro o; go_simp)); intro cc cc fz hl)
            have HC3 := Lib.hid hc3
            have HA3 := Lib.hid hA3
            clear hc3 hA3
            go_wp2_with fail
            rw [HE.out]
            refine bodyPost_ret (v := .tuple #[.agg #[.bool (decide (r1 < 0)), .slice A3 (canN r1.natAbs).length c3], .int .i64 r2]) (by simp only [results, Try.results12]; go_simp) rfl ⟨?_, ?_⟩
            · exact HB1.out.trans (by ((with_reducible (repeat (first | exact bR _ _ | refine bS ?_ ?_ _ | refine bA ?_ ?_ _ | refine bD ?_ | refine bT ?_ (by assumption) ?_ | refine bO (by assumption) ?_ ?_))) <;> (first | omega | (simp; done) | (simp <;> omega))))
            · exact ⟨A3, c3, rfl, HC3.out, HA3.out.set2 (by assumption) (by assumption) _ _⟩
end Go.Proofs.Ytadkcipjcmkoiaa
