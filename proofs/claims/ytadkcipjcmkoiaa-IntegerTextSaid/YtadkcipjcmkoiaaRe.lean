/- The contract of pinballref01.Parse. -/
import Derived.Test.YtadkcipjcmkoiaaRa
import Derived.Test.YtadkcipjcmkoiaaIe
namespace Go.Proofs.Ytadkcipjcmkoiaa
open Go Go.RowKit
set_option linter.unusedVariables false
theorem head_byte {s : ByteArray} (i3 : 0 < s.size) : negS s.data.toList = ((s[0].toNat : Int) == 45) := by
  have hhd : s.data.toList[0]? = some s[0] := by
    rw [List.getElem?_eq_getElem (by simpa using i3)]; rfl
  cases hd : s.data.toList with
  | nil => rw [hd] at hhd; simp at hhd
  | cons a l =>
    rw [hd] at hhd
    simp at hhd
    subst hhd
    show (s[0] == 45) = _
    rw [Bool.eq_iff_iff, beq_iff_eq, beq_iff_eq]
    constructor
    · intro h; rw [h]; rfl
    · intro h
      apply UInt8.toNat_inj.1
      have : (45 : UInt8).toNat = 45 := rfl
      omega
theorem okS_eq {t : ByteArray} : okS t.data.toList = (decide (0 < t.size) && t.data.toList.all digB) := by
  unfold okS
  have h : t.data.toList.length = t.size := by simp
  cases hd : t.data.toList with
  | nil => rw [hd] at h; simp at h; simp [← h]
  | cons a l =>
    rw [hd] at h
    simp at h
    rw [decide_eq_true (by omega : 0 < t.size)]
    rfl
theorem valI_canN {l : List UInt8} (h : Dig l) (hl : l.length ≤ 100000) (sg : Bool) : (canN (sv sg (valI l)).natAbs).length ≤ 100000 := by
  obtain ⟨v0, v1⟩ := valI_bd h
  refine canN_len.2 ?_
  have h1 : (10 : Int) ^ l.length ≤ PB l.length := by
    unfold PB
    have := Nat.pow_le_pow_left (show 10 ≤ 4294967296 by decide) l.length
    have h2 := Int.ofNat_le.2 this
    rwa [Int.natCast_pow, Int.natCast_pow] at h2
  have h2 := PB_mono hl
  have h3 : ((sv sg (valI l)).natAbs : Int) = valI l := by cases sg <;> simp [sv] <;> omega
  omega
theorem parse_at {s t : ByteArray} {sg : Bool} (hn : negS s.data.toList = sg) (ht : t.data.toList = digS s.data.toList) (hs : s.size ≤ 3000) (hok : okS t.data.toList = true) : parseR s.data.toList = sizedR (sv sg (valI t.data.toList)) := by
  unfold parseR
  rw [← ht, hok, if_neg (by simp), if_neg (by simpa using hs), hn]
  cases sg <;> rfl
set_option maxRecDepth 100000 in
set_option maxHeartbeats 4000000 in
theorem rparse_any (s : ByteArray) (w : World) (hs : s.size ≤ 100000) :
    Calls Try.prog 13 #[.string s] w (EOut (parseR s.data.toList).1 (parseR s.data.toList).2 w) := by
  have hsz : s.data.toList.length = s.size := by simp
  have HSZ := Lib.hid hsz
  have s0 : (0 : Int) ≤ (s.size : Int) := by omega
  have s1 : (s.size : Int) ≤ 100000 := by omega
  clear hsz
  by_cases h0 : s.size = 0
  · have i0 : ¬ (0 : Int) < (s.size : Int) := by omega
    have i1 : decide ((0 : Int) < (s.size : Int)) = false := decide_eq_false i0
    have hnil : s.data.toList = [] := List.length_eq_zero_iff.1 (by rw [HSZ.out]; exact h0)
    have HNG := Lib.hid (show negS s.data.toList = false by rw [hnil]; rfl)
    have HTL := Lib.hid (show s.data.toList = digS s.data.toList by rw [hnil]; rfl)
    have HTT := Lib.hid HSZ.out
    have n0 : ¬ (s.size : Int) < (s.size : Int) := by omega
    have HNL := Lib.hid hnil
    clear hnil h0
    go_enter Try.func13, Try.ntmps13; (try simp only [List.append_eq, List.cons_append, List.nil_append])
    go_wp2_with fail
    have t00 : (0 : Int) ≤ (s.size : Int) := by omega
    -- own blocks: w.heap.size:2
    have HB0 := Lib.hid (show Below w.heap.size w (w.alloc (.cells #[.bool false, .slice none 0 0] 24)) by ((with_reducible (repeat (first | exact bR _ _ | refine bS ?_ ?_ _ | refine bA ?_ ?_ _ | refine bD ?_ | refine bT ?_ (by assumption) ?_ | refine bO (by assumption) ?_ ?_))) <;> (first | omega | (simp; done) | (simp <;> omega))))
    (refine pin_wp (N := _) (Nat.le_refl _) (fun w1 hb_w1 hz_w1 => ?_); (try simp at hz_w1); (with_reducible apply cel2 (b := w.heap.size) hb_w1); (focus ((try simp) <;> omega)); (focus omega); (focus (go_simp; try exact rfl)); (focus (go_simp; try exact rfl)); (focus (intro o; go_simp)); intro cc cc fz hl)
    have HB1 := Lib.hid (HB0.out.trans (hb_w1.mono (by simp)))
    have hz1 : w.heap.size + 1 ≤ w1.heap.size := by omega
    clear hb_w1 hz_w1 HB0
    go_loop [5, 6] (fun vo vi => ∃ (i : Nat) (ok : Bool), i ≤ s.size ∧ vi = .int .i64 i ∧ vo = .bool ok ∧ Hid (ok = (decide (0 < s.size) && (s.data.toList.take i).all digB))) (fun _ vi => s.size - (intOf vi).toNat)
    case atStart =>
      refine ⟨0, decide (0 < s.size), by omega, rfl, ?_, Lib.hid (by simp)⟩
      first | rfl | (rw [decide_eq_true (by omega)]; done) | (rw [decide_eq_false (by omega)]; done) | (congr 1; apply decide_eq_decide.2; omega)
    case round =>
      obtain ⟨i, ok, hi, rfl, rfl, HI⟩ := hrel
      have k0 : (0 : Int) ≤ (i : Int) := by omega
      by_cases hit : i < s.size
      · have hbyte : s.data.toList[i]? = some (s[i]) := by
          rw [List.getElem?_eq_getElem (by rw [HTT.out]; exact hit)]; rfl
        obtain ⟨b, hb⟩ : ∃ b : Int, b = ((s[i]).toNat : Int) := ⟨_, rfl⟩
        have b0 : 0 ≤ b := by omega
        have HAL := Lib.hid (show (s.data.toList.take (i + 1)).all digB = ((s.data.toList.take i).all digB && digB (s[i])) by
          rw [List.take_add_one, hbyte]
          show ((s.data.toList.take i) ++ [s[i]]).all digB = _
          rw [List.all_append]; simp)
        have j1 : (i : Int) < (s.size : Int) := by omega
        have HDB := Lib.hid (show digB (s[i]) = decide (48 ≤ b ∧ b ≤ 57) by unfold digB; rw [hb]; apply decide_eq_decide.2; omega)
        have hb' := hb.symm
        clear hb hbyte
        cases ok
        · go_wp2_with fail
          go_round
          case rel => exact ⟨i + 1, false, by omega, by go_num, rfl, Lib.hid (by rw [HAL.out, ← Bool.and_assoc, ← HI.out]; rfl)⟩
          case measure => simp [intOf]; omega
        · by_cases d0 : 48 ≤ b
          · by_cases d1 : b ≤ 57
            · have d4 : decide (48 ≤ b) = true := decide_eq_true d0
              have d5 : decide (b ≤ 57) = true := decide_eq_true d1
              go_wp2_with fail
              go_round
              case rel => exact ⟨i + 1, true, by omega, by go_num, rfl, Lib.hid (by rw [HAL.out, ← Bool.and_assoc, ← HI.out, HDB.out, decide_eq_true ⟨d0, d1⟩]; rfl)⟩
              case measure => simp [intOf]; omega
            · have d4 : decide (48 ≤ b) = true := decide_eq_true d0
              have d5 : decide (b ≤ 57) = false := decide_eq_false d1
              go_wp2_with fail
              go_round
              case rel => exact ⟨i + 1, false, by omega, by go_num, rfl, Lib.hid (by rw [HAL.out, ← Bool.and_assoc, ← HI.out, HDB.out, decide_eq_false (by omega)]; rfl)⟩
              case measure => simp [intOf]; omega
          · have d4 : decide (48 ≤ b) = false := decide_eq_false d0
            go_wp2_with fail
            go_round
            case rel => exact ⟨i + 1, false, by omega, by go_num, rfl, Lib.hid (by rw [HAL.out, ← Bool.and_assoc, ← HI.out, HDB.out, decide_eq_false (by omega)]; rfl)⟩
            case measure => simp [intOf]; omega
      · obtain rfl : i = s.size := by omega
        have HOK := Lib.hid (show ok = okS s.data.toList by
          rw [okS_eq, HI.out, List.take_of_length_le (by rw [HTT.out]; exact Nat.le_refl _)])
        have j1 : ¬ (s.size : Int) < (s.size : Int) := by omega
        clear HI
        cases ok
        · have HE := Lib.hid (show parseR s.data.toList = (0, 4) by
            unfold parseR
            rw [← HTL.out, ← HOK.out, if_pos rfl])
          go_wp2_with fail
          rw [HE.out]
          refine bodyPost_ret (v := .tuple #[.agg #[.bool false, .slice none 0 0], .int .i64 4]) (by simp only [results, Try.results13]; go_simp) rfl (eout_zero ?_)
          have hfin := HB1.out
          ((with_reducible (repeat (first | exact bR _ _ | refine bS ?_ ?_ _ | refine bA ?_ ?_ _ | refine bD ?_ | refine bT ?_ (by assumption) ?_ | refine bO (by assumption) ?_ ?_))) <;> (first | omega | (simp; done) | (simp <;> omega)))
        · exact absurd HOK.out (by rw [HNL.out]; decide)
  · have i0 : (0 : Int) < (s.size : Int) := by omega
    have i1 : decide ((0 : Int) < (s.size : Int)) = true := decide_eq_true i0
    have i2 : decide (0 < s.size) = true := by rw [decide_eq_true_eq]; omega
    have i3 : 0 < s.size := by omega
    have hneg := head_byte i3
    by_cases hm : ((s[0].toNat : Int) == 45) = true
    · rw [hm] at hneg
      obtain ⟨t, ht⟩ : ∃ t, t = s.extract 1 s.size := ⟨_, rfl⟩
      have HTL := Lib.hid (show t.data.toList = digS s.data.toList by unfold digS; rw [hneg, ht, Go.Lib.extract_to_end]; rfl)
      have hts : t.size + 1 = s.size := by rw [ht, ByteArray.size_extract]; omega
      have HTT := Lib.hid (show t.data.toList.length = t.size by simp)
      have HNG := Lib.hid hneg
      have j0 : (1 : Int) ≤ (s.size : Int) := by omega
      have n0 : (t.size : Int) < (s.size : Int) := by omega
      clear hneg
      go_enter Try.func13, Try.ntmps13; (try simp only [List.append_eq, List.cons_append, List.nil_append])
      go_wp2_with fail
      rw [← ht]
      clear hm ht
      have t00 : (0 : Int) ≤ (t.size : Int) := by omega
      -- own blocks: w.heap.size:2
      have HB0 := Lib.hid (show Below w.heap.size w (w.alloc (.cells #[.bool false, .slice none 0 0] 24)) by ((with_reducible (repeat (first | exact bR _ _ | refine bS ?_ ?_ _ | refine bA ?_ ?_ _ | refine bD ?_ | refine bT ?_ (by assumption) ?_ | refine bO (by assumption) ?_ ?_))) <;> (first | omega | (simp; done) | (simp <;> omega))))
      (refine pin_wp (N := _) (Nat.le_refl _) (fun w1 hb_w1 hz_w1 => ?_); (try simp at hz_w1); (with_reducible apply cel2 (b := w.heap.size) hb_w1); (focus ((try simp) <;> omega)); (focus omega); (focus (go_simp; try exact rfl)); (focus (go_simp; try exact rfl)); (focus (intro o; go_simp)); intro cc cc fz hl)
      have HB1 := Lib.hid (HB0.out.trans (hb_w1.mono (by simp)))
      have hz1 : w.heap.size + 1 ≤ w1.heap.size := by omega
      clear hb_w1 hz_w1 HB0
      go_loop [5, 6] (fun vo vi => ∃ (i : Nat) (ok : Bool), i ≤ t.size ∧ vi = .int .i64 i ∧ vo = .bool ok ∧ Hid (ok = (decide (0 < t.size) && (t.data.toList.take i).all digB))) (fun _ vi => t.size - (intOf vi).toNat)
      case atStart =>
        refine ⟨0, decide (0 < t.size), by omega, rfl, ?_, Lib.hid (by simp)⟩
        first | rfl | (rw [decide_eq_true (by omega)]; done) | (rw [decide_eq_false (by omega)]; done) | (congr 1; apply decide_eq_decide.2; omega)
      case round =>
        obtain ⟨i, ok, hi, rfl, rfl, HI⟩ := hrel
        have k0 : (0 : Int) ≤ (i : Int) := by omega
        by_cases hit : i < t.size
        · have hbyte : t.data.toList[i]? = some (t[i]) := by
            rw [List.getElem?_eq_getElem (by rw [HTT.out]; exact hit)]; rfl
          obtain ⟨b, hb⟩ : ∃ b : Int, b = ((t[i]).toNat : Int) := ⟨_, rfl⟩
          have b0 : 0 ≤ b := by omega
          have HAL := Lib.hid (show (t.data.toList.take (i + 1)).all digB = ((t.data.toList.take i).all digB && digB (t[i])) by
            rw [List.take_add_one, hbyte]
            show ((t.data.toList.take i) ++ [t[i]]).all digB = _
            rw [List.all_append]; simp)
          have j1 : (i : Int) < (t.size : Int) := by omega
          have HDB := Lib.hid (show digB (t[i]) = decide (48 ≤ b ∧ b ≤ 57) by unfold digB; rw [hb]; apply decide_eq_decide.2; omega)
          have hb' := hb.symm
          clear hb hbyte
          cases ok
          · go_wp2_with fail
            go_round
            case rel => exact ⟨i + 1, false, by omega, by go_num, rfl, Lib.hid (by rw [HAL.out, ← Bool.and_assoc, ← HI.out]; rfl)⟩
            case measure => simp [intOf]; omega
          · by_cases d0 : 48 ≤ b
            · by_cases d1 : b ≤ 57
              · have d4 : decide (48 ≤ b) = true := decide_eq_true d0
                have d5 : decide (b ≤ 57) = true := decide_eq_true d1
                go_wp2_with fail
                go_round
                case rel => exact ⟨i + 1, true, by omega, by go_num, rfl, Lib.hid (by rw [HAL.out, ← Bool.and_assoc, ← HI.out, HDB.out, decide_eq_true ⟨d0, d1⟩]; rfl)⟩
                case measure => simp [intOf]; omega
              · have d4 : decide (48 ≤ b) = true := decide_eq_true d0
                have d5 : decide (b ≤ 57) = false := decide_eq_false d1
                go_wp2_with fail
                go_round
                case rel => exact ⟨i + 1, false, by omega, by go_num, rfl, Lib.hid (by rw [HAL.out, ← Bool.and_assoc, ← HI.out, HDB.out, decide_eq_false (by omega)]; rfl)⟩
                case measure => simp [intOf]; omega
            · have d4 : decide (48 ≤ b) = false := decide_eq_false d0
              go_wp2_with fail
              go_round
              case rel => exact ⟨i + 1, false, by omega, by go_num, rfl, Lib.hid (by rw [HAL.out, ← Bool.and_assoc, ← HI.out, HDB.out, decide_eq_false (by omega)]; rfl)⟩
              case measure => simp [intOf]; omega
        · obtain rfl : i = t.size := by omega
          have HOK := Lib.hid (show ok = okS t.data.toList by
            rw [okS_eq, HI.out, List.take_of_length_le (by rw [HTT.out]; exact Nat.le_refl _)])
          have j1 : ¬ (t.size : Int) < (t.size : Int) := by omega
          clear HI
          cases ok
          · have HE := Lib.hid (show parseR s.data.toList = (0, 4) by
              unfold parseR
              rw [← HTL.out, ← HOK.out, if_pos rfl])
            go_wp2_with fail
            rw [HE.out]
            refine bodyPost_ret (v := .tuple #[.agg #[.bool false, .slice none 0 0], .int .i64 4]) (by simp only [results, Try.results13]; go_simp) rfl (eout_zero ?_)
            have hfin := HB1.out
            ((with_reducible (repeat (first | exact bR _ _ | refine bS ?_ ?_ _ | refine bA ?_ ?_ _ | refine bD ?_ | refine bT ?_ (by assumption) ?_ | refine bO (by assumption) ?_ ?_))) <;> (first | omega | (simp; done) | (simp <;> omega)))
          · have hok : okS t.data.toList = true := HOK.out.symm
            have HDG := Lib.hid (show Dig t.data.toList from dig_of (by rw [okS_eq, Bool.and_eq_true] at hok; exact hok.2))
            by_cases hbig : 3000 < s.size
            · have HE := Lib.hid (show parseR s.data.toList = (0, 2) by
                unfold parseR
                rw [← HTL.out, hok, if_neg (by simp), if_pos (by rw [HSZ.out]; exact hbig)])
              have j2 : (3000 : Int) < (s.size : Int) := by omega
              clear hok
              go_wp2_with fail
              rw [HE.out]
              refine bodyPost_ret (v := .tuple #[.agg #[.bool false, .slice none 0 0], .int .i64 2]) (by simp only [results, Try.results13]; go_simp) rfl (eout_zero ?_)
              have hfin := HB1.out
              ((with_reducible (repeat (first | exact bR _ _ | refine bS ?_ ?_ _ | refine bA ?_ ?_ _ | refine bD ?_ | refine bT ?_ (by assumption) ?_ | refine bO (by assumption) ?_ ?_))) <;> (first | omega | (simp; done) | (simp <;> omega)))
            · have HE := Lib.hid (parse_at HNG.out HTL.out (by omega) hok)
              have HVL := Lib.hid (valI_canN HDG.out (by rw [HTT.out]; omega) true)
              have j2 : ¬ (3000 : Int) < (s.size : Int) := by omega
              clear hok
              go_wp2_with fail
              go_loopw [7, 8] (fun vm vi wr => ∃ (i : Nat) (L : List Int) (A : Option Addr) (c : Nat), i ≤ t.size ∧ vi = .int .i64 i ∧ vm = .slice A L.length c ∧ OwnL wr w1.heap.size (.slice A L.length c) L ∧ Hid (Lim L ∧ mv L = valI (t.data.toList.take i)) ∧ L.length ≤ i ∧ Below w1.heap.size w1 wr) (fun _ vi _ => t.size - (intOf vi).toNat)
              case atStart => exact ⟨0, [], none, 0, by omega, rfl, rfl, OwnL.nil _ _, Lib.hid ⟨Lim.nil, rfl⟩, by simp, Below.refl _ _⟩
              case round =>
                obtain ⟨i, L, A, c, hi, rfl, rfl, hown, HI, hLk, hbel⟩ := hrel
                obtain ⟨wo, rfl⟩ : ∃ wo : World, wo = wr := ⟨_, rfl⟩
                have HBE := Lib.hid hbel
                have HOW := Lib.hid hown
                have hz := hbel.size
                have k0 : (0 : Int) ≤ (i : Int) := by omega
                have k1 : (i : Int) ≤ 100000 := by omega
                have hb_wo := hbel
                (with_reducible apply cel2 (b := w.heap.size) hb_wo); (focus ((try simp) <;> omega)); (focus omega); (focus (go_simp; try exact rfl)); (focus (go_simp; try exact rfl)); (focus (intro o; go_simp)); intro cc cc fz hl
                clear hbel hown hb_wo
                by_cases hit : i < t.size
                · have hbyte : t.data.toList[i]? = some (t[i]) := by
                    rw [List.getElem?_eq_getElem (by rw [HTT.out]; exact hit)]; rfl
                  obtain ⟨d0, d1⟩ := HDG.out _ (List.mem_of_getElem? hbyte)
                  obtain ⟨b, hb⟩ : ∃ b : Int, b = ((t[i]).toNat : Int) := ⟨_, rfl⟩
                  have b0 : 48 ≤ b := by omega
                  have b1 : b ≤ 57 := by omega
                  have HST := Lib.hid (show 10 * valI (t.data.toList.take i) + (b - 48) = valI (t.data.toList.take (i + 1)) by
                    rw [List.take_add_one, hbyte]
                    show _ = valI (t.data.toList.take i ++ [t[i]])
                    rw [valI_snoc, ← hb])
                  have hb' := hb.symm
                  have j3 : (i : Int) < (t.size : Int) := by omega
                  clear hbyte d0 d1 hb
                  go_wp2_with fail
                  go_loopw [9, 10] (fun vc vk ws => ∃ (j : Nat) (cc : Int) (L' : List Int), j ≤ L.length ∧ vk = .int .i64 j ∧ vc = .int .u64 cc ∧ 0 ≤ cc ∧ cc ≤ 10 ∧ L'.length = L.length ∧ OwnL ws w1.heap.size (.slice A L.length c) L' ∧ Hid (Lim L' ∧ mv (L'.take j) + PB j * cc = mv (L.take j) * 10 + (b - 48) ∧ L'.drop j = L.drop j) ∧ Below w1.heap.size w1 ws) (fun _ vk _ => (L.length - (intOf vk).toNat))
                  case atStart => exact ⟨0, b - 48, L, by omega, rfl, by go_num, by omega, by omega, rfl, HOW.out, Lib.hid ⟨HI.out.1, by simp [mv, PB_zero], rfl⟩, HBE.out⟩
                  case round =>
                    obtain ⟨j, cc, L', hj, rfl, rfl, c0, c1, hl', hown, HC, hbel⟩ := hrel
                    have HOW5 := Lib.hid hown
                    have HBE5 := Lib.hid hbel
                    have hz5 := hbel.size
                    have m0 : (0 : Int) ≤ (j : Int) := by omega
                    have m1 : (j : Int) ≤ 100000 := by omega
                    clear hbel
                    by_cases hjl : j < L.length
                    · obtain ⟨x, hx⟩ : ∃ x, L[j]? = some x := ⟨L[j], by simp⟩
                      have hx' : L'[j]? = some x := by rw [get_of_drop HC.out.2.2]; exact hx
                      obtain ⟨x0, x1⟩ := HI.out.1.get hx
                      obtain ⟨g, o, rfl, hg, hcell⟩ := hown.lat j x hx'
                      have ho : o = 0 := by
                        rcases hown.2 with ⟨hv, _⟩ | ⟨g', cap, cur, hv, _⟩
                        · simp at hv
                        · injection hv with h1 _ _; injection h1 with h1; injection h1 with _ h1 _
                      subst ho
                      rw [Nat.zero_add] at hcell
                      have hfz := hown.frozen hl'
                      have j4 : (j : Int) < (L.length : Int) := by omega
                      obtain ⟨q1, q2, q3, q4, q5, q6⟩ := mulsc_bd (sc := 10) x0 x1 (by omega) (by omega) c0 c1
                      obtain ⟨v, hv⟩ : ∃ v, v = x * 10 + cc := ⟨_, rfl⟩
                      have HSM := Lib.hid (mulsc_step HC.out.2.1 hx (by omega) hv)
                      rw [← hv] at q3 q4 q5 q6
                      have hm : IntKind.u64.wrap (x * 10) = x * 10 := wraps_u64' _ q1 (by omega)
                      have hv2 : cc + x * 10 = v := by omega
                      clear hx hx' hv hown
                      go_wp2_with fail
                      go_roundw
                      case rel => exact ⟨j + 1, v / 4294967296, L'.set j (v % 4294967296), by omega, by go_num, rfl, q6, q5, by rw [List.length_set]; exact hl', HOW5.out.stored j _ hl', Lib.hid ⟨HC.out.1.set _ (by omega) (by omega), HSM.out, drop_set_same _ HC.out.2.2⟩, HBE5.out.setCell (by have := (HOW5.out.addr g 0 rfl).1; exact this) _⟩
                      case measure => simp [intOf]; omega
                    · obtain rfl : j = L.length := by omega
                      have j4 : ¬ (L.length : Int) < (L.length : Int) := by omega
                      have HF := Lib.hid (show mv L' + PB L.length * cc = valI (t.data.toList.take (i + 1)) by
                        have h1 := HC.out.2.1
                        rw [List.take_of_length_le (l := L') (by omega), List.take_length, HI.out.2] at h1
                        rw [h1, ← HST.out]; omega)
                      clear hown
                      by_cases hcc : 0 < cc
                      · have e1 : cc % 4294967296 = cc := by omega
                        go_wp2_with (at_builtin; go_must (refine wpList_append_limbs rfl _ _ rfl w1.heap.size _ L' rfl (HOW5.out.alloc _) (some ⟨wr.heap.size, 0, none⟩) 1 [cc] rfl (lat_one (by simp) (by go_simp)) (by simp; omega) (by simp; omega) ?_))
                        intro v5 w5 hown5 hg5
                        have HB5 := Lib.hid ((HBE5.out.alloc hz5 _).grown hg5 (by simp; omega) HOW5.out.fresh)
                        obtain ⟨A6, c6, rfl, hc6, _, _⟩ := lat_of_own hown5
                        have HO6 := Lib.hid hown5
                        clear hg5 hown5
                        go_wp2_with fail
                        go_roundw
                        case rel => exact ⟨i + 1, L' ++ [cc], A6, c6, by omega, by go_num, rfl, HO6.out, Lib.hid ⟨HC.out.1.snoc c0 (by omega), by rw [mv_snoc, hl']; exact HF.out⟩, by simp; omega, HB5.out⟩
                        case measure => simp [intOf]; omega
                      · have hc0 : cc = 0 := by omega
                        have e1 : ¬ (0 : Int) < cc := hcc
                        go_wp2_with fail
                        go_roundw
                        case rel => exact ⟨i + 1, L', A, c, by omega, by go_num, by rw [hl'], by rw [hl']; exact HOW5.out, Lib.hid ⟨HC.out.1, by have := HF.out; rw [hc0, Int.mul_zero, Int.add_zero] at this; exact this⟩, by omega, HBE5.out⟩
                        case measure => simp [intOf]; omega
                · obtain rfl : i = t.size := by omega
                  have j3 : ¬ (t.size : Int) < (t.size : Int) := by omega
                  have HF := Lib.hid (show sv true (mv L) = sv true (valI t.data.toList) by
                    rw [HI.out.2, List.take_of_length_le (by rw [HTT.out]; exact Nat.le_refl _)])
                  obtain ⟨_, _, hsl, hlc, _, _⟩ := lat_of_own HOW.out
                  have hlc2 : L.length ≤ c := by injection hsl; omega
                  have hmk := fun w' (h : LAt w' A L) => make1_any true A L c w' HI.out.1 h hlc2 (by omega)
                  rw [HF.out] at hmk
                  obtain ⟨V, hV⟩ : ∃ V, V = sv true (valI t.data.toList) := ⟨_, rfl⟩
                  have hvl := HVL.out
                  rw [← hV] at hmk hvl
                  have HMK := Lib.hid hmk
                  have HE := Lib.hid (show parseR s.data.toList = sizedR V by rw [HE.out, hV])
                  have hlg := fun v w' h => rlarge_any 100000 v V w' h (by omega)
                  obtain ⟨q, hq⟩ : ∃ q, q = lgB V := ⟨_, rfl⟩
                  rw [← hq] at hlg
                  have HLG := Lib.hid hlg
                  have HVL2 := Lib.hid hvl
                  clear hmk hsl hV hvl hlg HVL
                  go_wp2_with fail
                  (go_at_call 49; refine (HMK.out _ HOW.out.lat).mono ?_; rintro e w5 ⟨hb_w5, v5, rfl, hv5⟩; have hz_w5 := hb_w5.size; (try simp at hz_w5); (with_reducible apply cel2 (b := w.heap.size) hb_w5); (focus ((try simp) <;> omega)); (focus omega); (focus (go_simp; try exact rfl)); (focus (go_simp; try exact rfl)); (focus (intro o; go_simp)); intro cc cc fz hl)
                  have HV5 := Lib.hid hv5
                  obtain ⟨A5, c5, rfl, hc5, hA5⟩ := hv5
                  have HC5 := Lib.hid hc5
                  have HB5 := Lib.hid ((HB1.out.trans (HBE.out.mono (by omega))).trans (hb_w5.mono (by omega)))
                  have hz5 : w.heap.size + 1 ≤ w5.heap.size := by omega
                  clear hc5 hA5 hb_w5
                  go_wp2_with fail
                  -- own blocks besides: w5.heap.size:2
                  (go_at_call 50; refine (HLG.out _ _ ((HV5.out.alloc _).zl HVL2.out)).mono ?_; rintro e w6 ⟨rfl, hb_w6⟩; have hz_w6 := hb_w6.size; (try simp at hz_w6); (with_reducible apply cel2 (b := w.heap.size) hb_w6); (focus ((try simp) <;> omega)); (focus omega); (focus (go_simp; try exact rfl)); (focus (go_simp; try exact rfl)); (focus (intro o; go_simp)); intro cc cc fz hl; (with_reducible apply cel2 (b := w5.heap.size) hb_w6); (focus ((try simp) <;> omega)); (focus omega); (focus (go_simp; try exact rfl)); (focus (go_simp; try exact rfl)); (focus (intro o; go_simp)); intro cc cc fz hl)
                  have HB6 := Lib.hid ((HB5.out.alloc (by omega) (.cells #[.bool (decide (V < 0)), .slice A5 (canN V.natAbs).length c5] 24)).trans (hb_w6.mono (by simp; omega)))
                  have HV6 := Lib.hid ((HV5.out.alloc (.cells #[.bool (decide (V < 0)), .slice A5 (canN V.natAbs).length c5] 24)).below hb_w6)
                  clear hb_w6
                  cases q
                  · have HE := Lib.hid (show parseR s.data.toList = (V, 0) by rw [HE.out]; unfold sizedR; rw [← hq]; rfl)
                    clear hq
                    go_wp2_with fail
                    rw [HE.out]
                    refine bodyPost_ret (v := .tuple #[.agg #[.bool (decide (V < 0)), .slice A5 (canN V.natAbs).length c5], .int .i64 0]) (by simp only [results, Try.results13]; go_simp) rfl ⟨?_, ?_⟩
                    · have hfin := HB6.out
                      ((with_reducible (repeat (first | exact bR _ _ | refine bS ?_ ?_ _ | refine bA ?_ ?_ _ | refine bD ?_ | refine bT ?_ (by assumption) ?_ | refine bO (by assumption) ?_ ?_))) <;> (first | omega | (simp; done) | (simp <;> omega)))
                    · obtain ⟨A7, c7, e7, _, hA7⟩ := HV6.out
                      simp only [Value.agg.injEq, Array.mk.injEq, List.cons.injEq, Value.slice.injEq, and_true, true_and] at e7
                      obtain ⟨rfl, rfl⟩ := e7
                      exact ⟨A5, c5, rfl, HC5.out, hA7.set2 (by assumption) (by assumption) _ _⟩
                  · have HE := Lib.hid (show parseR s.data.toList = (0, 2) by rw [HE.out]; unfold sizedR; rw [← hq]; rfl)
                    clear hq
                    go_wp2_with fail
                    rw [HE.out]
                    refine bodyPost_ret (v := .tuple #[.agg #[.bool false, .slice none 0 0], .int .i64 2]) (by simp only [results, Try.results13]; go_simp) rfl (eout_zero ?_)
                    have hfin := HB6.out
                    ((with_reducible (repeat (first | exact bR _ _ | refine bS ?_ ?_ _ | refine bA ?_ ?_ _ | refine bD ?_ | refine bT ?_ (by assumption) ?_ | refine bO (by assumption) ?_ ?_))) <;> (first | omega | (simp; done) | (simp <;> omega)))
    · have hm2 : ((s[0].toNat : Int) == 45) = false := by simpa using hm
      rw [hm2] at hneg
      have HTL := Lib.hid (show s.data.toList = digS s.data.toList by unfold digS; rw [hneg]; rfl)
      have HNG := Lib.hid hneg
      have HTT := Lib.hid HSZ.out
      have n0 : ¬ (s.size : Int) < (s.size : Int) := by omega
      clear hneg hm h0
      go_enter Try.func13, Try.ntmps13; (try simp only [List.append_eq, List.cons_append, List.nil_append])
      go_wp2_with fail
      clear hm2
      have t00 : (0 : Int) ≤ (s.size : Int) := by omega
      -- own blocks: w.heap.size:2
      have HB0 := Lib.hid (show Below w.heap.size w (w.alloc (.cells #[.bool false, .slice none 0 0] 24)) by ((with_reducible (repeat (first | exact bR _ _ | refine bS ?_ ?_ _ | refine bA ?_ ?_ _ | refine bD ?_ | refine bT ?_ (by assumption) ?_ | refine bO (by assumption) ?_ ?_))) <;> (first | omega | (simp; done) | (simp <;> omega))))
      (refine pin_wp (N := _) (Nat.le_refl _) (fun w1 hb_w1 hz_w1 => ?_); (try simp at hz_w1); (with_reducible apply cel2 (b := w.heap.size) hb_w1); (focus ((try simp) <;> omega)); (focus omega); (focus (go_simp; try exact rfl)); (focus (go_simp; try exact rfl)); (focus (intro o; go_simp)); intro cc cc fz hl)
      have HB1 := Lib.hid (HB0.out.trans (hb_w1.mono (by simp)))
      have hz1 : w.heap.size + 1 ≤ w1.heap.size := by omega
      clear hb_w1 hz_w1 HB0
      go_loop [5, 6] (fun vo vi => ∃ (i : Nat) (ok : Bool), i ≤ s.size ∧ vi = .int .i64 i ∧ vo = .bool ok ∧ Hid (ok = (decide (0 < s.size) && (s.data.toList.take i).all digB))) (fun _ vi => s.size - (intOf vi).toNat)
      case atStart =>
        refine ⟨0, decide (0 < s.size), by omega, rfl, ?_, Lib.hid (by simp)⟩
        first | rfl | (rw [decide_eq_true (by omega)]; done) | (rw [decide_eq_false (by omega)]; done) | (congr 1; apply decide_eq_decide.2; omega)
      case round =>
        obtain ⟨i, ok, hi, rfl, rfl, HI⟩ := hrel
        have k0 : (0 : Int) ≤ (i : Int) := by omega
        by_cases hit : i < s.size
        · have hbyte : s.data.toList[i]? = some (s[i]) := by
            rw [List.getElem?_eq_getElem (by rw [HTT.out]; exact hit)]; rfl
          obtain ⟨b, hb⟩ : ∃ b : Int, b = ((s[i]).toNat : Int) := ⟨_, rfl⟩
          have b0 : 0 ≤ b := by omega
          have HAL := Lib.hid (show (s.data.toList.take (i + 1)).all digB = ((s.data.toList.take i).all digB && digB (s[i])) by
            rw [List.take_add_one, hbyte]
            show ((s.data.toList.take i) ++ [s[i]]).all digB = _
            rw [List.all_append]; simp)
          have j1 : (i : Int) < (s.size : Int) := by omega
          have HDB := Lib.hid (show digB (s[i]) = decide (48 ≤ b ∧ b ≤ 57) by unfold digB; rw [hb]; apply decide_eq_decide.2; omega)
          have hb' := hb.symm
          clear hb hbyte
          cases ok
          · go_wp2_with fail
            go_round
            case rel => exact ⟨i + 1, false, by omega, by go_num, rfl, Lib.hid (by rw [HAL.out, ← Bool.and_assoc, ← HI.out]; rfl)⟩
            case measure => simp [intOf]; omega
          · by_cases d0 : 48 ≤ b
            · by_cases d1 : b ≤ 57
              · have d4 : decide (48 ≤ b) = true := decide_eq_true d0
                have d5 : decide (b ≤ 57) = true := decide_eq_true d1
                go_wp2_with fail
                go_round
                case rel => exact ⟨i + 1, true, by omega, by go_num, rfl, Lib.hid (by rw [HAL.out, ← Bool.and_assoc, ← HI.out, HDB.out, decide_eq_true ⟨d0, d1⟩]; rfl)⟩
                case measure => simp [intOf]; omega
              · have d4 : decide (48 ≤ b) = true := decide_eq_true d0
                have d5 : decide (b ≤ 57) = false := decide_eq_false d1
                go_wp2_with fail
                go_round
                case rel => exact ⟨i + 1, false, by omega, by go_num, rfl, Lib.hid (by rw [HAL.out, ← Bool.and_assoc, ← HI.out, HDB.out, decide_eq_false (by omega)]; rfl)⟩
                case measure => simp [intOf]; omega
            · have d4 : decide (48 ≤ b) = false := decide_eq_false d0
              go_wp2_with fail
              go_round
              case rel => exact ⟨i + 1, false, by omega, by go_num, rfl, Lib.hid (by rw [HAL.out, ← Bool.and_assoc, ← HI.out, HDB.out, decide_eq_false (by omega)]; rfl)⟩
              case measure => simp [intOf]; omega
        · obtain rfl : i = s.size := by omega
          have HOK := Lib.hid (show ok = okS s.data.toList by
            rw [okS_eq, HI.out, List.take_of_length_le (by rw [HTT.out]; exact Nat.le_refl _)])
          have j1 : ¬ (s.size : Int) < (s.size : Int) := by omega
          clear HI
          cases ok
          · have HE := Lib.hid (show parseR s.data.toList = (0, 4) by
              unfold parseR
              rw [← HTL.out, ← HOK.out, if_pos rfl])
            go_wp2_with fail
            rw [HE.out]
            refine bodyPost_ret (v := .tuple #[.agg #[.bool false, .slice none 0 0], .int .i64 4]) (by simp only [results, Try.results13]; go_simp) rfl (eout_zero ?_)
            have hfin := HB1.out
            ((with_reducible (repeat (first | exact bR _ _ | refine bS ?_ ?_ _ | refine bA ?_ ?_ _ | refine bD ?_ | refine bT ?_ (by assumption) ?_ | refine bO (by assumption) ?_ ?_))) <;> (first | omega | (simp; done) | (simp <;> omega)))
          · have hok : okS s.data.toList = true := HOK.out.symm
            have HDG := Lib.hid (show Dig s.data.toList from dig_of (by rw [okS_eq, Bool.and_eq_true] at hok; exact hok.2))
            by_cases hbig : 3000 < s.size
            · have HE := Lib.hid (show parseR s.data.toList = (0, 2) by
                unfold parseR
                rw [← HTL.out, hok, if_neg (by simp), if_pos (by rw [HSZ.out]; exact hbig)])
              have j2 : (3000 : Int) < (s.size : Int) := by omega
              clear hok
              go_wp2_with fail
              rw [HE.out]
              refine bodyPost_ret (v := .tuple #[.agg #[.bool false, .slice none 0 0], .int .i64 2]) (by simp only [results, Try.results13]; go_simp) rfl (eout_zero ?_)
              have hfin := HB1.out
              ((with_reducible (repeat (first | exact bR _ _ | refine bS ?_ ?_ _ | refine bA ?_ ?_ _ | refine bD ?_ | refine bT ?_ (by assumption) ?_ | refine bO (by assumption) ?_ ?_))) <;> (first | omega | (simp; done) | (simp <;> omega)))
            · have HE := Lib.hid (parse_at HNG.out HTL.out (by omega) hok)
              have HVL := Lib.hid (valI_canN HDG.out (by rw [HTT.out]; omega) false)
              have j2 : ¬ (3000 : Int) < (s.size : Int) := by omega
              clear hok
              go_wp2_with fail
              go_loopw [7, 8] (fun vm vi wr => ∃ (i : Nat) (L : List Int) (A : Option Addr) (c : Nat), i ≤ s.size ∧ vi = .int .i64 i ∧ vm = .slice A L.length c ∧ OwnL wr w1.heap.size (.slice A L.length c) L ∧ Hid (Lim L ∧ mv L = valI (s.data.toList.take i)) ∧ L.length ≤ i ∧ Below w1.heap.size w1 wr) (fun _ vi _ => s.size - (intOf vi).toNat)
              case atStart => exact ⟨0, [], none, 0, by omega, rfl, rfl, OwnL.nil _ _, Lib.hid ⟨Lim.nil, rfl⟩, by simp, Below.refl _ _⟩
              case round =>
                obtain ⟨i, L, A, c, hi, rfl, rfl, hown, HI, hLk, hbel⟩ := hrel
                obtain ⟨wo, rfl⟩ : ∃ wo : World, wo = wr := ⟨_, rfl⟩
                have HBE := Lib.hid hbel
                have HOW := Lib.hid hown
                have hz := hbel.size
                have k0 : (0 : Int) ≤ (i : Int) := by omega
                have k1 : (i : Int) ≤ 100000 := by omega
                have hb_wo := hbel
                (with_reducible apply cel2 (b := w.heap.size) hb_wo); (focus ((try simp) <;> omega)); (focus omega); (focus (go_simp; try exact rfl)); (focus (go_simp; try exact rfl)); (focus (intro o; go_simp)); intro cc cc fz hl
                clear hbel hown hb_wo
                by_cases hit : i < s.size
                · have hbyte : s.data.toList[i]? = some (s[i]) := by
                    rw [List.getElem?_eq_getElem (by rw [HTT.out]; exact hit)]; rfl
                  obtain ⟨d0, d1⟩ := HDG.out _ (List.mem_of_getElem? hbyte)
                  obtain ⟨b, hb⟩ : ∃ b : Int, b = ((s[i]).toNat : Int) := ⟨_, rfl⟩
                  have b0 : 48 ≤ b := by omega
                  have b1 : b ≤ 57 := by omega
                  have HST := Lib.hid (show 10 * valI (s.data.toList.take i) + (b - 48) = valI (s.data.toList.take (i + 1)) by
                    rw [List.take_add_one, hbyte]
                    show _ = valI (s.data.toList.take i ++ [s[i]])
                    rw [valI_snoc, ← hb])
                  have hb' := hb.symm
                  have j3 : (i : Int) < (s.size : Int) := by omega
                  clear hbyte d0 d1 hb
                  go_wp2_with fail
                  go_loopw [9, 10] (fun vc vk ws => ∃ (j : Nat) (cc : Int) (L' : List Int), j ≤ L.length ∧ vk = .int .i64 j ∧ vc = .int .u64 cc ∧ 0 ≤ cc ∧ cc ≤ 10 ∧ L'.length = L.length ∧ OwnL ws w1.heap.size (.slice A L.length c) L' ∧ Hid (Lim L' ∧ mv (L'.take j) + PB j * cc = mv (L.take j) * 10 + (b - 48) ∧ L'.drop j = L.drop j) ∧ Below w1.heap.size w1 ws) (fun _ vk _ => (L.length - (intOf vk).toNat))
                  case atStart => exact ⟨0, b - 48, L, by omega, rfl, by go_num, by omega, by omega, rfl, HOW.out, Lib.hid ⟨HI.out.1, by simp [mv, PB_zero], rfl⟩, HBE.out⟩
                  case round =>
                    obtain ⟨j, cc, L', hj, rfl, rfl, c0, c1, hl', hown, HC, hbel⟩ := hrel
                    have HOW5 := Lib.hid hown
                    have HBE5 := Lib.hid hbel
                    have hz5 := hbel.size
                    have m0 : (0 : Int) ≤ (j : Int) := by omega
                    have m1 : (j : Int) ≤ 100000 := by omega
                    clear hbel
                    by_cases hjl : j < L.length
                    · obtain ⟨x, hx⟩ : ∃ x, L[j]? = some x := ⟨L[j], by simp⟩
                      have hx' : L'[j]? = some x := by rw [get_of_drop HC.out.2.2]; exact hx
                      obtain ⟨x0, x1⟩ := HI.out.1.get hx
                      obtain ⟨g, o, rfl, hg, hcell⟩ := hown.lat j x hx'
                      have ho : o = 0 := by
                        rcases hown.2 with ⟨hv, _⟩ | ⟨g', cap, cur, hv, _⟩
                        · simp at hv
                        · injection hv with h1 _ _; injection h1 with h1; injection h1 with _ h1 _
                      subst ho
                      rw [Nat.zero_add] at hcell
                      have hfz := hown.frozen hl'
                      have j4 : (j : Int) < (L.length : Int) := by omega
                      obtain ⟨q1, q2, q3, q4, q5, q6⟩ := mulsc_bd (sc := 10) x0 x1 (by omega) (by omega) c0 c1
                      obtain ⟨v, hv⟩ : ∃ v, v = x * 10 + cc := ⟨_, rfl⟩
                      have HSM := Lib.hid (mulsc_step HC.out.2.1 hx (by omega) hv)
                      rw [← hv] at q3 q4 q5 q6
                      have hm : IntKind.u64.wrap (x * 10) = x * 10 := wraps_u64' _ q1 (by omega)
                      have hv2 : cc + x * 10 = v := by omega
                      clear hx hx' hv hown
                      go_wp2_with fail
                      go_roundw
                      case rel => exact ⟨j + 1, v / 4294967296, L'.set j (v % 4294967296), by omega, by go_num, rfl, q6, q5, by rw [List.length_set]; exact hl', HOW5.out.stored j _ hl', Lib.hid ⟨HC.out.1.set _ (by omega) (by omega), HSM.out, drop_set_same _ HC.out.2.2⟩, HBE5.out.setCell (by have := (HOW5.out.addr g 0 rfl).1; exact this) _⟩
                      case measure => simp [intOf]; omega
                    · obtain rfl : j = L.length := by omega
                      have j4 : ¬ (L.length : Int) < (L.length : Int) := by omega
                      have HF := Lib.hid (show mv L' + PB L.length * cc = valI (s.data.toList.take (i + 1)) by
                        have h1 := HC.out.2.1
                        rw [List.take_of_length_le (l := L') (by omega), List.take_length, HI.out.2] at h1
                        rw [h1, ← HST.out]; omega)
                      clear hown
                      by_cases hcc : 0 < cc
                      · have e1 : cc % 4294967296 = cc := by omega
                        go_wp2_with (at_builtin; go_must (refine wpList_append_limbs rfl _ _ rfl w1.heap.size _ L' rfl (HOW5.out.alloc _) (some ⟨wr.heap.size, 0, none⟩) 1 [cc] rfl (lat_one (by simp) (by go_simp)) (by simp; omega) (by simp; omega) ?_))
                        intro v5 w5 hown5 hg5
                        have HB5 := Lib.hid ((HBE5.out.alloc hz5 _).grown hg5 (by simp; omega) HOW5.out.fresh)
                        obtain ⟨A6, c6, rfl, hc6, _, _⟩ := lat_of_own hown5
                        have HO6 := Lib.hid hown5
                        clear hg5 hown5
                        go_wp2_with fail
                        go_roundw
                        case rel => exact ⟨i + 1, L' ++ [cc], A6, c6, by omega, by go_num, rfl, HO6.out, Lib.hid ⟨HC.out.1.snoc c0 (by omega), by rw [mv_snoc, hl']; exact HF.out⟩, by simp; omega, HB5.out⟩
                        case measure => simp [intOf]; omega
                      · have hc0 : cc = 0 := by omega
                        have e1 : ¬ (0 : Int) < cc := hcc
                        go_wp2_with fail
                        go_roundw
                        case rel => exact ⟨i + 1, L', A, c, by omega, by go_num, by rw [hl'], by rw [hl']; exact HOW5.out, Lib.hid ⟨HC.out.1, by have := HF.out; rw [hc0, Int.mul_zero, Int.add_zero] at this; exact this⟩, by omega, HBE5.out⟩
                        case measure => simp [intOf]; omega
                · obtain rfl : i = s.size := by omega
                  have j3 : ¬ (s.size : Int) < (s.size : Int) := by omega
                  have HF := Lib.hid (show sv false (mv L) = sv false (valI s.data.toList) by
                    rw [HI.out.2, List.take_of_length_le (by rw [HTT.out]; exact Nat.le_refl _)])
                  obtain ⟨_, _, hsl, hlc, _, _⟩ := lat_of_own HOW.out
                  have hlc2 : L.length ≤ c := by injection hsl; omega
                  have hmk := fun w' (h : LAt w' A L) => make1_any false A L c w' HI.out.1 h hlc2 (by omega)
                  rw [HF.out] at hmk
                  obtain ⟨V, hV⟩ : ∃ V, V = sv false (valI s.data.toList) := ⟨_, rfl⟩
                  have hvl := HVL.out
                  rw [← hV] at hmk hvl
                  have HMK := Lib.hid hmk
                  have HE := Lib.hid (show parseR s.data.toList = sizedR V by rw [HE.out, hV])
                  have hlg := fun v w' h => rlarge_any 100000 v V w' h (by omega)
                  obtain ⟨q, hq⟩ : ∃ q, q = lgB V := ⟨_, rfl⟩
                  rw [← hq] at hlg
                  have HLG := Lib.hid hlg
                  have HVL2 := Lib.hid hvl
                  clear hmk hsl hV hvl hlg HVL
                  go_wp2_with fail
                  (go_at_call 49; refine (HMK.out _ HOW.out.lat).mono ?_; rintro e w5 ⟨hb_w5, v5, rfl, hv5⟩; have hz_w5 := hb_w5.size; (try simp at hz_w5); (with_reducible apply cel2 (b := w.heap.size) hb_w5); (focus ((try simp) <;> omega)); (focus omega); (focus (go_simp; try exact rfl)); (focus (go_simp; try exact rfl)); (focus (intro o; go_simp)); intro cc cc fz hl)
                  have HV5 := Lib.hid hv5
                  obtain ⟨A5, c5, rfl, hc5, hA5⟩ := hv5
                  have HC5 := Lib.hid hc5
                  have HB5 := Lib.hid ((HB1.out.trans (HBE.out.mono (by omega))).trans (hb_w5.mono (by omega)))
                  have hz5 : w.heap.size + 1 ≤ w5.heap.size := by omega
                  clear hc5 hA5 hb_w5
                  go_wp2_with fail
                  -- own blocks besides: w5.heap.size:2
                  (go_at_call 50; refine (HLG.out _ _ ((HV5.out.alloc _).zl HVL2.out)).mono ?_; rintro e w6 ⟨rfl, hb_w6⟩; have hz_w6 := hb_w6.size; (try simp at hz_w6); (with_reducible apply cel2 (b := w.heap.size) hb_w6); (focus ((try simp) <;> omega)); (focus omega); (focus (go_simp; try exact rfl)); (focus (go_simp; try exact rfl)); (focus (intro o; go_simp)); intro cc cc fz hl; (with_reducible apply cel2 (b := w5.heap.size) hb_w6); (focus ((try simp) <;> omega)); (focus omega); (focus (go_simp; try exact rfl)); (focus (go_simp; try exact rfl)); (focus (intro o; go_simp)); intro cc cc fz hl)
                  have HB6 := Lib.hid ((HB5.out.alloc (by omega) (.cells #[.bool (decide (V < 0)), .slice A5 (canN V.natAbs).length c5] 24)).trans (hb_w6.mono (by simp; omega)))
                  have HV6 := Lib.hid ((HV5.out.alloc (.cells #[.bool (decide (V < 0)), .slice A5 (canN V.natAbs).length c5] 24)).below hb_w6)
                  clear hb_w6
                  cases q
                  · have HE := Lib.hid (show parseR s.data.toList = (V, 0) by rw [HE.out]; unfold sizedR; rw [← hq]; rfl)
                    clear hq
                    go_wp2_with fail
                    rw [HE.out]
                    refine bodyPost_ret (v := .tuple #[.agg #[.bool (decide (V < 0)), .slice A5 (canN V.natAbs).length c5], .int .i64 0]) (by simp only [results, Try.results13]; go_simp) rfl ⟨?_, ?_⟩
                    · have hfin := HB6.out
                      ((with_reducible (repeat (first | exact bR _ _ | refine bS ?_ ?_ _ | refine bA ?_ ?_ _ | refine bD ?_ | refine bT ?_ (by assumption) ?_ | refine bO (by assumption) ?_ ?_))) <;> (first | omega | (simp; done) | (simp <;> omega)))
                    · obtain ⟨A7, c7, e7, _, hA7⟩ := HV6.out
                      simp only [Value.agg.injEq, Array.mk.injEq, List.cons.injEq, Value.slice.injEq, and_true, true_and] at e7
                      obtain ⟨rfl, rfl⟩ := e7
                      exact ⟨A5, c5, rfl, HC5.out, hA7.set2 (by assumption) (by assumption) _ _⟩
                  · have HE := Lib.hid (show parseR s.data.toList = (0, 2) by rw [HE.out]; unfold sizedR; rw [← hq]; rfl)
                    clear hq
                    go_wp2_with fail
                    rw [HE.out]
                    refine bodyPost_ret (v := .tuple #[.agg #[.bool false, .slice none 0 0], .int .i64 2]) (by simp only [results, Try.results13]; go_simp) rfl (eout_zero ?_)
                    have hfin := HB6.out
                    ((with_reducible (repeat (first | exact bR _ _ | refine bS ?_ ?_ _ | refine bA ?_ ?_ _ | refine bD ?_ | refine bT ?_ (by assumption) ?_ | refine bO (by assumption) ?_ ?_))) <;> (first | omega | (simp; done) | (simp <;> omega)))
end Go.Proofs.Ytadkcipjcmkoiaa
