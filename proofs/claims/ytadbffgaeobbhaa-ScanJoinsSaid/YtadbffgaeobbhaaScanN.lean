/- The contracts of scan.Name and of the reference's Name. -/
import Derived.Test.YtadbffgaeobbhaaScanW
import Derived.Laws.RangeString
import Derived.Laws.RangeAny
import Derived.LoopTactic
namespace Go.Proofs.Ytadbffgaeobbhaa
open Go.RowKit
set_option linter.unusedVariables false
attribute [local go_sem] cOf_get
def nameB (s : ByteArray) : Bool := decide (1 ≤ s.size ∧ s.size ≤ 12 ∧ letB (cOf s 0) = true ∧ run alnumB s 0 = s.size)
theorem width_pos (s : ByteArray) (pos : Nat) (h : pos < s.size) : 1 ≤ (Utf8.decode s pos).2 := by
  by_cases ha : (s[pos]'h).toNat < 128
  · rw [decode_ascii s pos h ha]
    exact Nat.le_refl _
  · exact (decode_high s pos h (by omega)).2
/-- What a round of the range sees at pos. -/
theorem rune_at (s : ByteArray) (pos : Nat) (h : pos < s.size) : (Utf8.decode s pos = ((cOf s pos).toNat, 1) ∧ cOf s pos < 128) ∨ (128 ≤ (Utf8.decode s pos).1 ∧ 128 ≤ cOf s pos) := by
  have e := cOf_get h
  by_cases ha : (s[pos]'h).toNat < 128
  · left
    rw [decode_ascii s pos h ha]
    exact ⟨by rw [← e]; rfl, by omega⟩
  · right
    exact ⟨(decode_high s pos h (by omega)).1, by omega⟩
theorem nameB_bad {s : ByteArray} {k : Nat} (hk : k < s.size) (h : alnumB (cOf s k) = false) (hr : run alnumB s k = run alnumB s 0) : nameB s = false := by
  unfold nameB
  rw [decide_eq_false_iff_not]
  rintro ⟨_, _, _, h4⟩
  rw [run_stop (fun hh => by rw [h] at hh; exact absurd hh.2 (by simp))] at hr
  omega
theorem nameB_first {s : ByteArray} (h : letB (cOf s 0) = false) : nameB s = false := by
  unfold nameB
  rw [decide_eq_false_iff_not]
  rintro ⟨_, _, h3, _⟩
  rw [h] at h3; exact absurd h3 (by simp)
theorem alnum_ge {c : Int} (h : 128 ≤ c) : alnumB c = false := by
  simp [alnumB, letB, digB]; omega
set_option maxRecDepth 1000000 in
set_option maxHeartbeats 1000000 in
theorem name_any (s : ByteArray) (w : World) (hm : s.size ≤ maxLen) :
    Calls Try.prog 12 #[.string s] w fun e w' => e = .returned (.bool (nameB s)) ∧ Below w.heap.size w w' := by
  unfold maxLen at hm
  go_enter Try.func12, Try.ntmps12; (try simp only [List.append_eq, List.cons_append, List.nil_append])
  go_wp2
  go_loopw [] (fun w' => ∃ pos : Nat, w' = w.iter s pos ∧ pos ≤ s.size ∧ Hid (run alnumB s pos = run alnumB s 0) ∧ Hid (0 < pos → letB (cOf s 0) = true)) (fun w' => s.size - w'.iterPos w.heap.size)
  case atStart => exact ⟨0, rfl, by omega, rfl, fun h => absurd h (by omega)⟩
  case round =>
    obtain ⟨pos, rfl, hps, HR, HL⟩ := hrel
    by_cases hp : pos < s.size
    · have hnx : ∀ ty, (Instr.next (.pointer (some ⟨w.heap.size, 0, none⟩)) true ty).run Try.prog (w.iter s pos) = _ := fun ty => run_next_any w s pos ty hp
      rcases rune_at s pos hp with ⟨hd, hc⟩ | ⟨hd, hc⟩
      · rw [hd] at hnx
        have hcb := (cOf_bd s pos).1
        have hcn : (((cOf s pos).toNat : Nat) : Int) = cOf s pos := Int.toNat_of_nonneg hcb
        simp only [hcn] at hnx
        cases hl : letB (cOf s pos)
        · have HP := Lib.hid hl
          have hl' : (¬ 97 ≤ cOf s pos) ∨ (97 ≤ cOf s pos ∧ ¬ cOf s pos ≤ 122) := by simp [letB] at hl; omega
          clear hl hd
          by_cases h0 : pos = 0
          · subst h0
            rcases hl' with hl' | ⟨hl', hl2'⟩
            all_goals
              go_wp2
              go_ret
              refine ⟨ret_bool ?_, ?_⟩
              · rw [nameB_first HP.out]
              · exact (Below.refl _ _).alloc (Nat.le_refl _) _
          · have h0' : ((pos : Int) == 0) = false := by simp; omega
            cases hdg : digB (cOf s pos)
            · have hbad := Lib.hid (nameB_bad hp (show alnumB (cOf s pos) = false by simp [alnumB, HP.out, hdg]) HR.out)
              have hd' : (cOf s pos < 48) ∨ (¬ cOf s pos < 48 ∧ 57 < cOf s pos) := by simp [digB] at hdg; omega
              clear hdg
              rcases hl' with hl' | ⟨hl', hl2'⟩ <;> rcases hd' with hd' | ⟨hd', hd2'⟩
              all_goals first
                | (exfalso; omega)
                | (go_wp2
                   go_ret
                   refine ⟨ret_bool ?_, ?_⟩
                   · rw [hbad.out]
                   · exact (Below.refl _ _).alloc (Nat.le_refl _) _)
            · have hd' : 48 ≤ cOf s pos ∧ cOf s pos ≤ 57 := by simpa [digB] using hdg
              have hst := Lib.hid ((run_step hp (show alnumB (cOf s pos) = true by simp [alnumB, hdg])).trans HR.out)
              obtain ⟨hd1, hd2⟩ := hd'
              clear hdg hl'
              have hl1 : ¬ 97 ≤ cOf s pos := by omega
              have hd3 : ¬ cOf s pos < 48 := by omega
              have hd4 : ¬ 57 < cOf s pos := by omega
              go_wp2
              go_roundw
              case rel => exact ⟨pos + 1, rfl, by omega, hst.out, fun _ => HL.out (by omega)⟩
              case measure => simp; omega
        · have hl' : 97 ≤ cOf s pos ∧ cOf s pos ≤ 122 := by simpa [letB] using hl
          have hst := Lib.hid ((run_step hp (show alnumB (cOf s pos) = true by simp [alnumB, hl])).trans HR.out)
          obtain ⟨hl1, hl2⟩ := hl'
          have HP := Lib.hid hl
          clear hl hd
          go_wp2
          go_roundw
          case rel => exact ⟨pos + 1, rfl, by omega, hst.out, fun _ => by
            rcases Nat.eq_zero_or_pos pos with h | h
            · have := HP.out; rw [h] at this; exact this
            · exact HL.out h⟩
          case measure => simp; omega
      · have hbad := Lib.hid (nameB_bad hp (alnum_ge hc) HR.out)
        obtain ⟨r, hr⟩ : ∃ r, r = (Utf8.decode s pos).1 := ⟨_, rfl⟩
        rw [← hr] at hd hnx
        have hr1 : ¬ (r : Int) ≤ 122 := by omega
        have hr2 : (97 : Int) ≤ (r : Int) := by omega
        have hr3 : (57 : Int) < (r : Int) := by omega
        have hr4 : ¬ (r : Int) < 48 := by omega
        have hr5 : r ≤ 2147483647 := by rw [hr]; exact decode_le s pos
        clear hr hc
        by_cases h0 : pos = 0
        · subst h0
          go_wp2
          go_ret
          refine ⟨ret_bool ?_, ?_⟩
          · rw [hbad.out]
          · exact (Below.refl _ _).alloc (Nat.le_refl _) _
        · have h0' : ((pos : Int) == 0) = false := by simp; omega
          go_wp2
          go_ret
          refine ⟨ret_bool ?_, ?_⟩
          · rw [hbad.out]
          · exact (Below.refl _ _).alloc (Nat.le_refl _) _
    · have hnx : ∀ ty, (Instr.next (.pointer (some ⟨w.heap.size, 0, none⟩)) true ty).run Try.prog (w.iter s pos) = _ := fun ty => run_next_end w s pos ty hp
      obtain rfl : pos = s.size := by omega
      have he0 : nameB s = (decide (1 ≤ s.size) && decide (s.size ≤ 12)) := by
        unfold nameB
        have hrr := HR.out
        rw [run_stop (fun h => absurd h.1 (by omega))] at hrr
        rcases Nat.eq_zero_or_pos s.size with h | h
        · simp [h]
        · have h2 := HL.out h
          simp [h2, ← hrr]
      have he := Lib.hid he0
      clear he0
      by_cases c1 : 1 ≤ s.size
      · by_cases c2 : s.size ≤ 12
        · go_wp2
          go_ret
          refine ⟨ret_bool ?_, (Below.refl _ _).alloc (Nat.le_refl _) _⟩
          rw [he.out]; first | (simp [*]; done) | (simp [*]; omega)
        · go_wp2
          go_ret
          refine ⟨ret_bool ?_, (Below.refl _ _).alloc (Nat.le_refl _) _⟩
          rw [he.out]; first | (simp [*]; done) | (simp [*]; omega)
      · go_wp2
        go_ret
        refine ⟨ret_bool ?_, (Below.refl _ _).alloc (Nat.le_refl _) _⟩
        rw [he.out]; first | (simp [*]; done) | (simp [*]; omega)
set_option maxRecDepth 1000000 in
set_option maxHeartbeats 1000000 in
theorem rname_any (s : ByteArray) (w : World) (hm : s.size ≤ maxLen) :
    Calls Try.prog 13 #[.string s] w fun e w' => e = .returned (.bool (nameB s)) ∧ Below w.heap.size w w' := by
  unfold maxLen at hm
  by_cases h0 : s.size = 0
  · have he0 : nameB s = false := by simp [nameB, h0]
    have he := Lib.hid he0
    clear he0
    have h0' : ((s.size : Int) == 0) = true := beq_iff_eq.2 (by omega)
    clear h0
    go_enter Try.func13, Try.ntmps13; (try simp only [List.append_eq, List.cons_append, List.nil_append])
    go_wp2_with fail
    go_ret
    exact ⟨ret_bool he.out.symm, Below.refl _ _⟩
  · have h0' : ((s.size : Int) == 0) = false := beq_eq_false_iff_ne.2 (by omega)
    by_cases h1 : 12 < s.size
    · have he0 : nameB s = false := by simp [nameB]; omega
      have he := Lib.hid he0
      clear he0
      clear h0
      go_enter Try.func13, Try.ntmps13; (try simp only [List.append_eq, List.cons_append, List.nil_append])
      go_wp2_with fail
      go_ret
      exact ⟨ret_bool he.out.symm, Below.refl _ _⟩
    · cases hl : letB (cOf s 0)
      · have he := Lib.hid (nameB_first hl)
        have hlt : 0 < s.size := by omega
        clear h0
        go_enter Try.func13, Try.ntmps13; (try simp only [List.append_eq, List.cons_append, List.nil_append])
        go_wp2_with (go_at_call 18; refine (rlet_any _ _).mono ?_; rintro e w' ⟨rfl, rfl⟩)
        go_ret
        exact ⟨ret_bool he.out.symm, Below.refl _ _⟩
      · have hlt : 0 < s.size := by omega
        have HL := Lib.hid hl
        clear h0
        go_enter Try.func13, Try.ntmps13; (try simp only [List.append_eq, List.cons_append, List.nil_append])
        go_wp2_with (go_at_call 18; refine (rlet_any _ _).mono ?_; rintro e w' ⟨rfl, rfl⟩)
        clear hl
        go_loop [3] (fun t => ∃ k : Nat, k ≤ s.size ∧ t = .int .i64 k ∧ Hid (run alnumB s k = run alnumB s 0)) (fun t => s.size - (intOf t).toNat)
        case atStart => exact ⟨0, by omega, rfl, rfl⟩
        case round =>
          obtain ⟨k, hk, rfl, HR⟩ := hrel
          by_cases hltk : k < s.size
          · cases hp : letB (cOf s k)
            · cases hp2 : digB (cOf s k)
              · have hbad := Lib.hid (nameB_bad hltk (show alnumB (cOf s k) = false by simp [alnumB, hp, hp2]) HR.out)
                go_wp2_with (first | (go_at_call 18; refine (rlet_any _ _).mono ?_; rintro e w' ⟨rfl, rfl⟩) | (go_at_call 19; refine (rdig_any _ _).mono ?_; rintro e w' ⟨rfl, rfl⟩))
                go_ret
                exact ⟨ret_bool hbad.out.symm, Below.refl _ _⟩
              · have hst := Lib.hid ((run_step hltk (show alnumB (cOf s k) = true by simp [alnumB, hp2])).trans HR.out)
                go_wp2_with (first | (go_at_call 18; refine (rlet_any _ _).mono ?_; rintro e w' ⟨rfl, rfl⟩) | (go_at_call 19; refine (rdig_any _ _).mono ?_; rintro e w' ⟨rfl, rfl⟩))
                go_round
                case rel => exact ⟨k + 1, by omega, by go_num, hst.out⟩
                case measure => simp [intOf]; omega
            · have hst := Lib.hid ((run_step hltk (show alnumB (cOf s k) = true by simp [alnumB, hp])).trans HR.out)
              go_wp2_with (first | (go_at_call 18; refine (rlet_any _ _).mono ?_; rintro e w' ⟨rfl, rfl⟩) | (go_at_call 19; refine (rdig_any _ _).mono ?_; rintro e w' ⟨rfl, rfl⟩))
              go_round
              case rel => exact ⟨k + 1, by omega, by go_num, hst.out⟩
              case measure => simp [intOf]; omega
          · obtain rfl : k = s.size := by omega
            have he : Hid (nameB s = true) := by
              have hrr := HR.out
              rw [run_stop (fun h => absurd h.1 (by omega))] at hrr
              unfold nameB
              rw [decide_eq_true_eq]
              exact ⟨by omega, by omega, HL.out, hrr.symm⟩
            go_wp2_with fail
            go_ret
            exact ⟨ret_bool he.out.symm, Below.refl _ _⟩
end Go.Proofs.Ytadbffgaeobbhaa
