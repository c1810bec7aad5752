/- Merged texts: ScanW ScanN LcM LcB Pick LdT SrcP ScanL Open. -/
import Derived.Test.YtbpcjpiaimdpnaaGreatDoorCk1
import Derived.Test.YtbpcjpiaimdpnaaGreatDoorProg
import Derived.WalkKit
import Derived.WalkSpells
import Derived.WalkLawsBesides
import Derived.Outline
import Derived.Lib.Hide
import Derived.Laws.RangeString
import Derived.Laws.RangeAny
import Derived.LoopTactic
import Derived.WideShapes
import Derived.StringKeys
import Derived.Maps.Own
import Derived.Maps.Views
import Derived.Deep.MidRow
import Derived.KernelRfl
import Derived.ProofKit
import Derived.OpenShut
import Derived.ChangeOld
import Derived.Below
import Derived.Carry
set_option linter.unusedSimpArgs false
set_option linter.unusedVariables false
namespace Go.Proofs.YtbpcjpiaimdpnaaGreatDoor
open Go.RowKit
set_option linter.unusedVariables false
theorem ret_bool {a b : Bool} (h : a = b) : Ending.returned (.bool a) = .returned (.bool b) := by rw [h]
theorem bool_iff {a b : Bool} (h : a = true ↔ b = true) : a = b := by cases a <;> cases b <;> simp_all
set_option maxHeartbeats 400000 in
theorem let_any (c : Int) (w : World) : Calls Tryz.prog 183 #[.int .u8 c] w fun e w' => e = .returned (.bool (letB c)) ∧ w = w' := by
 go_enter Tryz.func183, Tryz.ntmps183; (try simp only [List.append_eq, List.cons_append, List.nil_append])
 go_wp2
 all_goals
  go_ret
  refine ⟨ret_bool (bool_iff ?_), rfl⟩
  simp only [letB, decide_eq_true_eq, Bool.false_eq_true, false_iff]; omega
set_option maxHeartbeats 400000 in
theorem dig_any (c : Int) (w : World) : Calls Tryz.prog 184 #[.int .u8 c] w fun e w' => e = .returned (.bool (digB c)) ∧ w = w' := by
 go_enter Tryz.func184, Tryz.ntmps184; (try simp only [List.append_eq, List.cons_append, List.nil_append])
 go_wp2
 all_goals
  go_ret
  refine ⟨ret_bool (bool_iff ?_), rfl⟩
  simp only [digB, decide_eq_true_eq, Bool.false_eq_true, false_iff]; omega
set_option maxHeartbeats 400000 in
theorem rlet_any (c : Int) (w : World) : Calls Tryz.prog 87 #[.int .u8 c] w fun e w' => e = .returned (.bool (letB c)) ∧ w = w' := by
 go_enter Tryz.func87, Tryz.ntmps87; (try simp only [List.append_eq, List.cons_append, List.nil_append])
 go_wp2
 all_goals
  go_ret
  refine ⟨ret_bool (bool_iff ?_), rfl⟩
  simp only [letB, decide_eq_true_eq, Bool.false_eq_true, false_iff]; omega
set_option maxHeartbeats 400000 in
theorem rdig_any (c : Int) (w : World) : Calls Tryz.prog 88 #[.int .u8 c] w fun e w' => e = .returned (.bool (digB c)) ∧ w = w' := by
 go_enter Tryz.func88, Tryz.ntmps88; (try simp only [List.append_eq, List.cons_append, List.nil_append])
 go_wp2
 all_goals
  go_ret
  refine ⟨ret_bool (bool_iff ?_), rfl⟩
  simp only [digB, decide_eq_true_eq, Bool.false_eq_true, false_iff]; omega
def WordOut (s : ByteArray) (i : Nat) (B : Nat) (w : World) (e : Ending) (w' : World) : Prop :=
  Below B w w' ∧ ((∃ er pl, wordR s i = .err er pl ∧ e = .returned (.tuple #[.agg #[.int .i64 0, .string ⟨#[]⟩, .int .i64 0, .int .i64 0], .int .i64 er, .int .i64 pl])) ∨
    ∃ k t n nx, wordR s i = .ok k t n nx ∧ e = .returned (.tuple #[.agg #[.int .i64 k, .string t, .int .i64 n, .int .i64 i], .int .i64 0, .int .i64 0]))
theorem cOf_get {s : ByteArray} {i : Nat} (h : i < s.size) : ((s[i].toNat : Nat) : Int) = cOf s i := by rw [byteAt_eq h]; rfl
attribute [local go_sem] cOf_get
set_option maxHeartbeats 400000 in
theorem word_semi (s : ByteArray) (i : Nat) (w : World) (hs : s.size ≤ 20000) (hi : i < s.size) (hc : cOf s i = 59) :
  Calls Tryz.prog 153 #[.string s, .int .i64 i] w (WordOut s i w.heap.size w) := by
 have hB : (cOf s i == 59) = true := by simp [hc]
 have HC := hQ0 hc
 clear hc
 go_enter Tryz.func153, Tryz.ntmps153; (try simp only [List.append_eq, List.cons_append, List.nil_append])
 go_wp2_with fail
 refine bodyPost_ret (v := .tuple #[.agg #[.int .i64 3, .string ⟨#[59]⟩, .int .i64 0, .int .i64 i], .int .i64 0, .int .i64 0]) (by simp only [results, Tryz.results153]; go_simp) rfl ⟨?_, .inr ⟨3, ⟨#[59]⟩, 0, i + 1, ?_, rfl⟩⟩
 · ((with_reducible (repeat (first | exact bR _ _ | apply bS | apply bA | apply bD | refine bT ?_ (by assumption) ?_ | refine bO (by assumption) ?_ ?_))) <;> (first | omega | (simp <;> omega)))
 · simp [wordR, HC.out]
set_option maxHeartbeats 400000 in
theorem word_name (s : ByteArray) (i : Nat) (w : World) (hs : s.size ≤ 20000) (hi : i < s.size) (hc : cOf s i ≠ 59) (hl : letB (cOf s i) = true) :
  Calls Tryz.prog 153 #[.string s, .int .i64 i] w (WordOut s i w.heap.size w) := by
 have hB : (cOf s i == 59) = false := by simp [hc]
 have HC := hQ0 hc
 clear hc
 have HL := hQ0 hl
 have hle := run_le alnumB s (i := i) (by omega)
 have hge := run_ge alnumB s i
 go_enter Tryz.func153, Tryz.ntmps153; (try simp only [List.append_eq, List.cons_append, List.nil_append])
 go_wp2_with (first | (go_at_call 183; refine (let_any _ _).mono ?_; rintro e w' ⟨rfl, rfl⟩) | (go_at_call 184; refine (dig_any _ _).mono ?_; rintro e w' ⟨rfl, rfl⟩))
 obtain ⟨E, hE⟩ : ∃ E, E = run alnumB s i := ⟨_, rfl⟩
 rw [← hE] at hle hge
 have HE := hQ0 hE
 clear hE
 go_loop [7] (fun t => ∃ k : Nat, i ≤ k ∧ k ≤ s.size ∧ t = .int .i64 k ∧ Hid (run alnumB s k = E)) (fun t => s.size - (intOf t).toNat)
 case atStart => exact ⟨i, Nat.le_refl _, by omega, rfl, HE.out.symm⟩
 case round =>
  obtain ⟨k, hk0, hk, rfl, HK⟩ := hrel
  by_cases hlt : k < s.size
  · by_cases hp : alnumB (cOf s k) = true
    · have hst := hQ0 ((run_step hlt hp).trans HK.out)
      have HP : (letB (cOf s k) = true) ∨ (letB (cOf s k) = false ∧ digB (cOf s k) = true) := by
       cases h1 : letB (cOf s k) <;> cases h2 : digB (cOf s k) <;> simp_all [alnumB]
      clear hp
      rcases HP with hp | ⟨hp, hp'⟩
      all_goals
       go_wp2_with (first | (go_at_call 183; refine (let_any _ _).mono ?_; rintro e w' ⟨rfl, rfl⟩) | (go_at_call 184; refine (dig_any _ _).mono ?_; rintro e w' ⟨rfl, rfl⟩))
       go_round
       case rel => exact ⟨k + 1, by omega, by omega, by go_num, hst.out⟩
       case measure => simp [intOf]; omega
    · have hp1 : letB (cOf s k) = false := by cases h1 : letB (cOf s k) <;> simp_all [alnumB]
      have hp2 : digB (cOf s k) = false := by cases h1 : digB (cOf s k) <;> simp_all [alnumB]
      have hEk : k = E := by rw [← HK.out]; exact (run_stop (fun h => hp h.2)).symm
      clear hp
      subst hEk
      by_cases hbig : 12 < k - i
      · have hb2 : (12 : Int) < (k : Int) - i := by omega
        go_wp2_with (first | (go_at_call 183; refine (let_any _ _).mono ?_; rintro e w' ⟨rfl, rfl⟩) | (go_at_call 184; refine (dig_any _ _).mono ?_; rintro e w' ⟨rfl, rfl⟩))
        refine bodyPost_ret (v := .tuple #[.agg #[.int .i64 0, .string ⟨#[]⟩, .int .i64 0, .int .i64 0], .int .i64 6, .int .i64 i]) (by simp only [results, Tryz.results153]; go_simp) rfl ⟨?_, .inl ⟨6, i, ?_, rfl⟩⟩
        · ((with_reducible (repeat (first | exact bR _ _ | apply bS | apply bA | apply bD | refine bT ?_ (by assumption) ?_ | refine bO (by assumption) ?_ ?_))) <;> (first | omega | (simp <;> omega)))
        · simp [wordR, HC.out, HL.out, ← HE.out, hbig]
      · have hb2 : ¬ (12 : Int) < (k : Int) - i := by omega
        go_wp2_with (first | (go_at_call 183; refine (let_any _ _).mono ?_; rintro e w' ⟨rfl, rfl⟩) | (go_at_call 184; refine (dig_any _ _).mono ?_; rintro e w' ⟨rfl, rfl⟩))
        refine bodyPost_ret (v := .tuple #[.agg #[.int .i64 1, .string (s.extract i k), .int .i64 0, .int .i64 i], .int .i64 0, .int .i64 0]) (by simp only [results, Tryz.results153]; go_simp) rfl ⟨?_, .inr ⟨1, s.extract i k, 0, k, ?_, rfl⟩⟩
        · ((with_reducible (repeat (first | exact bR _ _ | apply bS | apply bA | apply bD | refine bT ?_ (by assumption) ?_ | refine bO (by assumption) ?_ ?_))) <;> (first | omega | (simp <;> omega)))
        · simp [wordR, HC.out, HL.out, ← HE.out, hbig]
  · have hEk : k = E := by rw [← HK.out]; exact (run_stop (fun h => hlt h.1)).symm
    subst hEk
    by_cases hbig : 12 < k - i
    · have hb2 : (12 : Int) < (k : Int) - i := by omega
      go_wp2_with (first | (go_at_call 183; refine (let_any _ _).mono ?_; rintro e w' ⟨rfl, rfl⟩) | (go_at_call 184; refine (dig_any _ _).mono ?_; rintro e w' ⟨rfl, rfl⟩))
      refine bodyPost_ret (v := .tuple #[.agg #[.int .i64 0, .string ⟨#[]⟩, .int .i64 0, .int .i64 0], .int .i64 6, .int .i64 i]) (by simp only [results, Tryz.results153]; go_simp) rfl ⟨?_, .inl ⟨6, i, ?_, rfl⟩⟩
      · ((with_reducible (repeat (first | exact bR _ _ | apply bS | apply bA | apply bD | refine bT ?_ (by assumption) ?_ | refine bO (by assumption) ?_ ?_))) <;> (first | omega | (simp <;> omega)))
      · simp [wordR, HC.out, HL.out, ← HE.out, hbig]
    · have hb2 : ¬ (12 : Int) < (k : Int) - i := by omega
      go_wp2_with (first | (go_at_call 183; refine (let_any _ _).mono ?_; rintro e w' ⟨rfl, rfl⟩) | (go_at_call 184; refine (dig_any _ _).mono ?_; rintro e w' ⟨rfl, rfl⟩))
      refine bodyPost_ret (v := .tuple #[.agg #[.int .i64 1, .string (s.extract i k), .int .i64 0, .int .i64 i], .int .i64 0, .int .i64 0]) (by simp only [results, Tryz.results153]; go_simp) rfl ⟨?_, .inr ⟨1, s.extract i k, 0, k, ?_, rfl⟩⟩
      · ((with_reducible (repeat (first | exact bR _ _ | apply bS | apply bA | apply bD | refine bT ?_ (by assumption) ?_ | refine bO (by assumption) ?_ ?_))) <;> (first | omega | (simp <;> omega)))
      · simp [wordR, HC.out, HL.out, ← HE.out, hbig]
set_option maxRecDepth 100000 in
set_option maxHeartbeats 800000 in
theorem word_minus (s : ByteArray) (i : Nat) (w : World) (hs : s.size ≤ 20000) (hi : i < s.size) (hc : cOf s i ≠ 59) (hl : letB (cOf s i) = false) (hm : cOf s i = 45) :
  Calls Tryz.prog 153 #[.string s, .int .i64 i] w (WordOut s i w.heap.size w) := by
 have hB : (cOf s i == 59) = false := by simp [hc]
 have hM : (cOf s i == 45) = true := by simp [hm]
 have HC := hQ0 hc
 have HM := hQ0 hm
 have HL := hQ0 hl
 clear hc hm
 have hle := run_le digB s (i := i + 1) (by omega)
 have hge := run_ge digB s (i + 1)
 go_enter Tryz.func153, Tryz.ntmps153; (try simp only [List.append_eq, List.cons_append, List.nil_append])
 go_wp2_with (first | (go_at_call 183; refine (let_any _ _).mono ?_; rintro e w' ⟨rfl, rfl⟩) | (go_at_call 184; refine (dig_any _ _).mono ?_; rintro e w' ⟨rfl, rfl⟩))
 obtain ⟨E, hE⟩ : ∃ E, E = run digB s (i + 1) := ⟨_, rfl⟩
 obtain ⟨V, hV⟩ : ∃ V, V = num 2147483648 s (i + 1) 0 := ⟨_, rfl⟩
 have HR : Hid (V = num 1073741825 s (i + 1) 0 ∧ V ≤ 1073741824 ∨ 1073741824 < V ∧ 1073741824 < num 1073741825 s (i + 1) 0) := by rw [hV]; exact num_rel s _
 rw [← hE] at hle hge
 have HE := hQ0 hE
 have HV := hQ0 hV
 clear hE hV
 go_loop [7, 9] (fun t u => ∃ (k : Nat) (n : Int), i + 1 ≤ k ∧ k ≤ s.size ∧ t = .int .i64 k ∧ u = .int .i64 n ∧ 0 ≤ n ∧ n ≤ 2147483648 ∧ Hid (run digB s k = E) ∧ Hid (num 2147483648 s k n = V)) (fun t _ => s.size - (intOf t).toNat)
 case atStart => exact ⟨i + 1, 0, Nat.le_refl _, by omega, by go_num, rfl, by omega, by omega, HE.out.symm, HV.out.symm⟩
 case round =>
  obtain ⟨k, n, hk0, hk, rfl, rfl, hn0, hn1, HK, HN⟩ := hrel
  have hcb := cOf_bd s k
  obtain ⟨hcb1, hcb2⟩ := hcb
  by_cases hlt : k < s.size
  · cases hp : digB (cOf s k)
    · have hEk : k = E := by rw [← HK.out]; exact (run_stop (fun h => by rw [hp] at h; exact absurd h.2 (by simp))).symm
      have hVk : n = V := by rw [← HN.out]; exact (num_stop (fun h => by rw [hp] at h; exact absurd h.2 (by simp))).symm
      subst hEk hVk
      clear HK HN
      by_cases he : k = i + 1
      · have he2 : ((k : Int) == (i : Int) + 1) = true := by simp; omega
        have HH := hQ0 (HE.out.symm.trans he)
        clear he
        go_wp2_with (first | (go_at_call 183; refine (let_any _ _).mono ?_; rintro e w' ⟨rfl, rfl⟩) | (go_at_call 184; refine (dig_any _ _).mono ?_; rintro e w' ⟨rfl, rfl⟩))
        refine bodyPost_ret (v := .tuple #[.agg #[.int .i64 0, .string ⟨#[]⟩, .int .i64 0, .int .i64 0], .int .i64 4, .int .i64 i]) (by simp only [results, Tryz.results153]; go_simp) rfl ⟨?_, .inl ⟨4, i, wr_nodig HC.out HL.out (by rw [if_pos HM.out]) HH.out, rfl⟩⟩
        ((with_reducible (repeat (first | exact bR _ _ | apply bS | apply bA | apply bD | refine bT ?_ (by assumption) ?_ | refine bO (by assumption) ?_ ?_))) <;> (first | omega | (simp <;> omega)))
      · have he2 : ((k : Int) == (i : Int) + 1) = false := by simp; omega
        have HN := hQ0 (fun h => he (HE.out.trans h) : run digB s (i + 1) ≠ i + 1)
        by_cases hb : 1073741824 < n
        · have HH : Hid (1073741824 < num 1073741825 s (i + 1) 0) := by rcases HR.out with h | h; exact absurd hb (by omega); exact h.2
          go_wp2_with (first | (go_at_call 183; refine (let_any _ _).mono ?_; rintro e w' ⟨rfl, rfl⟩) | (go_at_call 184; refine (dig_any _ _).mono ?_; rintro e w' ⟨rfl, rfl⟩))
          refine bodyPost_ret (v := .tuple #[.agg #[.int .i64 0, .string ⟨#[]⟩, .int .i64 0, .int .i64 0], .int .i64 5, .int .i64 i]) (by simp only [results, Tryz.results153]; go_simp) rfl ⟨?_, .inl ⟨5, i, wr_range HC.out HL.out (by rw [if_pos HM.out]) HN.out HH.out, rfl⟩⟩
          ((with_reducible (repeat (first | exact bR _ _ | apply bS | apply bA | apply bD | refine bT ?_ (by assumption) ?_ | refine bO (by assumption) ?_ ?_))) <;> (first | omega | (simp <;> omega)))
        · have HH : Hid (num 1073741825 s (i + 1) 0 = n) := by rcases HR.out with h | h; exact h.1.symm; exact absurd h.1 hb
          have HHb : Hid (n ≤ 1073741824) := Int.not_lt.1 hb
          cases hq : letB (cOf s k)
          · go_wp2_with (first | (go_at_call 183; refine (let_any _ _).mono ?_; rintro e w' ⟨rfl, rfl⟩) | (go_at_call 184; refine (dig_any _ _).mono ?_; rintro e w' ⟨rfl, rfl⟩))
            refine bodyPost_ret (v := .tuple #[.agg #[.int .i64 2, .string (s.extract i k), .int .i64 (-n), .int .i64 i], .int .i64 0, .int .i64 0]) (by simp only [results, Tryz.results153]; go_simp) rfl ⟨?_, .inr ⟨2, s.extract i k, -n, k, ?_, rfl⟩⟩
            · ((with_reducible (repeat (first | exact bR _ _ | apply bS | apply bA | apply bD | refine bT ?_ (by assumption) ?_ | refine bO (by assumption) ?_ ?_))) <;> (first | omega | (simp <;> omega)))
            · rw [wr_num HC.out HL.out (by rw [if_pos HM.out]) HE.out.symm he HH.out (Int.not_lt.2 HHb.out) (fun h => by rw [hq] at h; exact absurd h.2 (by simp)), if_pos HM.out]
          · go_wp2_with (first | (go_at_call 183; refine (let_any _ _).mono ?_; rintro e w' ⟨rfl, rfl⟩) | (go_at_call 184; refine (dig_any _ _).mono ?_; rintro e w' ⟨rfl, rfl⟩))
            refine bodyPost_ret (v := .tuple #[.agg #[.int .i64 0, .string ⟨#[]⟩, .int .i64 0, .int .i64 0], .int .i64 4, .int .i64 k]) (by simp only [results, Tryz.results153]; go_simp) rfl ⟨?_, .inl ⟨4, k, wr_glued HC.out HL.out (by rw [if_pos HM.out]) HE.out.symm he HH.out (Int.not_lt.2 HHb.out) hlt hq, rfl⟩⟩
            ((with_reducible (repeat (first | exact bR _ _ | apply bS | apply bA | apply bD | refine bT ?_ (by assumption) ?_ | refine bO (by assumption) ?_ ?_))) <;> (first | omega | (simp <;> omega)))
    · have hst := hQ0 ((run_step hlt hp).trans HK.out)
      have hst2 := hQ0 ((num_step hlt hp).trans HN.out)
      have hd : 48 ≤ cOf s k ∧ cOf s k ≤ 57 := by simpa [digB] using hp
      obtain ⟨hd1, hd2⟩ := hd
      go_wp2_with (first | (go_at_call 183; refine (let_any _ _).mono ?_; rintro e w' ⟨rfl, rfl⟩) | (go_at_call 184; refine (dig_any _ _).mono ?_; rintro e w' ⟨rfl, rfl⟩))
      all_goals
       go_round
       case rel => exact ⟨k + 1, min (10 * n + (cOf s k - 48)) 2147483648, by omega, by omega, by go_num, by congr 1; omega, by omega, by omega, hst.out, hst2.out⟩
       case measure => simp [intOf]; omega
  · have hEk : k = E := by rw [← HK.out]; exact (run_stop (fun h => hlt h.1)).symm
    have hVk : n = V := by rw [← HN.out]; exact (num_stop (fun h => hlt h.1)).symm
    subst hEk hVk
    clear HK HN
    by_cases he : k = i + 1
    · have he2 : ((k : Int) == (i : Int) + 1) = true := by simp; omega
      have HH := hQ0 (HE.out.symm.trans he)
      clear he
      go_wp2_with (first | (go_at_call 183; refine (let_any _ _).mono ?_; rintro e w' ⟨rfl, rfl⟩) | (go_at_call 184; refine (dig_any _ _).mono ?_; rintro e w' ⟨rfl, rfl⟩))
      refine bodyPost_ret (v := .tuple #[.agg #[.int .i64 0, .string ⟨#[]⟩, .int .i64 0, .int .i64 0], .int .i64 4, .int .i64 i]) (by simp only [results, Tryz.results153]; go_simp) rfl ⟨?_, .inl ⟨4, i, wr_nodig HC.out HL.out (by rw [if_pos HM.out]) HH.out, rfl⟩⟩
      ((with_reducible (repeat (first | exact bR _ _ | apply bS | apply bA | apply bD | refine bT ?_ (by assumption) ?_ | refine bO (by assumption) ?_ ?_))) <;> (first | omega | (simp <;> omega)))
    · have he2 : ((k : Int) == (i : Int) + 1) = false := by simp; omega
      have HN := hQ0 (fun h => he (HE.out.trans h) : run digB s (i + 1) ≠ i + 1)
      by_cases hb : 1073741824 < n
      · have HH : Hid (1073741824 < num 1073741825 s (i + 1) 0) := by rcases HR.out with h | h; exact absurd hb (by omega); exact h.2
        go_wp2_with (first | (go_at_call 183; refine (let_any _ _).mono ?_; rintro e w' ⟨rfl, rfl⟩) | (go_at_call 184; refine (dig_any _ _).mono ?_; rintro e w' ⟨rfl, rfl⟩))
        refine bodyPost_ret (v := .tuple #[.agg #[.int .i64 0, .string ⟨#[]⟩, .int .i64 0, .int .i64 0], .int .i64 5, .int .i64 i]) (by simp only [results, Tryz.results153]; go_simp) rfl ⟨?_, .inl ⟨5, i, wr_range HC.out HL.out (by rw [if_pos HM.out]) HN.out HH.out, rfl⟩⟩
        ((with_reducible (repeat (first | exact bR _ _ | apply bS | apply bA | apply bD | refine bT ?_ (by assumption) ?_ | refine bO (by assumption) ?_ ?_))) <;> (first | omega | (simp <;> omega)))
      · have HH : Hid (num 1073741825 s (i + 1) 0 = n) := by rcases HR.out with h | h; exact h.1.symm; exact absurd h.1 hb
        have HHb : Hid (n ≤ 1073741824) := Int.not_lt.1 hb
        go_wp2_with (first | (go_at_call 183; refine (let_any _ _).mono ?_; rintro e w' ⟨rfl, rfl⟩) | (go_at_call 184; refine (dig_any _ _).mono ?_; rintro e w' ⟨rfl, rfl⟩))
        refine bodyPost_ret (v := .tuple #[.agg #[.int .i64 2, .string (s.extract i k), .int .i64 (-n), .int .i64 i], .int .i64 0, .int .i64 0]) (by simp only [results, Tryz.results153]; go_simp) rfl ⟨?_, .inr ⟨2, s.extract i k, -n, k, ?_, rfl⟩⟩
        · ((with_reducible (repeat (first | exact bR _ _ | apply bS | apply bA | apply bD | refine bT ?_ (by assumption) ?_ | refine bO (by assumption) ?_ ?_))) <;> (first | omega | (simp <;> omega)))
        · rw [wr_num HC.out HL.out (by rw [if_pos HM.out]) HE.out.symm he HH.out (Int.not_lt.2 HHb.out) (fun h => hlt h.1), if_pos HM.out]
set_option maxRecDepth 100000 in
set_option maxHeartbeats 800000 in
theorem word_plain (s : ByteArray) (i : Nat) (w : World) (hs : s.size ≤ 20000) (hi : i < s.size) (hc : cOf s i ≠ 59) (hl : letB (cOf s i) = false) (hm : cOf s i ≠ 45) :
  Calls Tryz.prog 153 #[.string s, .int .i64 i] w (WordOut s i w.heap.size w) := by
 have hB : (cOf s i == 59) = false := by simp [hc]
 have hM : (cOf s i == 45) = false := by simp [hm]
 have HC := hQ0 hc
 have HM := hQ0 hm
 have HL := hQ0 hl
 clear hc hm
 have hle := run_le digB s (i := i) (by omega)
 have hge := run_ge digB s (i)
 go_enter Tryz.func153, Tryz.ntmps153; (try simp only [List.append_eq, List.cons_append, List.nil_append])
 go_wp2_with (first | (go_at_call 183; refine (let_any _ _).mono ?_; rintro e w' ⟨rfl, rfl⟩) | (go_at_call 184; refine (dig_any _ _).mono ?_; rintro e w' ⟨rfl, rfl⟩))
 obtain ⟨E, hE⟩ : ∃ E, E = run digB s (i) := ⟨_, rfl⟩
 obtain ⟨V, hV⟩ : ∃ V, V = num 2147483648 s (i) 0 := ⟨_, rfl⟩
 have HR : Hid (V = num 1073741825 s (i) 0 ∧ V ≤ 1073741824 ∨ 1073741824 < V ∧ 1073741824 < num 1073741825 s (i) 0) := by rw [hV]; exact num_rel s _
 rw [← hE] at hle hge
 have HE := hQ0 hE
 have HV := hQ0 hV
 clear hE hV
 go_loop [7, 9] (fun t u => ∃ (k : Nat) (n : Int), i ≤ k ∧ k ≤ s.size ∧ t = .int .i64 k ∧ u = .int .i64 n ∧ 0 ≤ n ∧ n ≤ 2147483648 ∧ Hid (run digB s k = E) ∧ Hid (num 2147483648 s k n = V)) (fun t _ => s.size - (intOf t).toNat)
 case atStart => exact ⟨i, 0, Nat.le_refl _, by omega, by go_num, rfl, by omega, by omega, HE.out.symm, HV.out.symm⟩
 case round =>
  obtain ⟨k, n, hk0, hk, rfl, rfl, hn0, hn1, HK, HN⟩ := hrel
  have hcb := cOf_bd s k
  obtain ⟨hcb1, hcb2⟩ := hcb
  by_cases hlt : k < s.size
  · cases hp : digB (cOf s k)
    · have hEk : k = E := by rw [← HK.out]; exact (run_stop (fun h => by rw [hp] at h; exact absurd h.2 (by simp))).symm
      have hVk : n = V := by rw [← HN.out]; exact (num_stop (fun h => by rw [hp] at h; exact absurd h.2 (by simp))).symm
      subst hEk hVk
      clear HK HN
      by_cases he : k = i
      · have he2 : ((k : Int) == (i : Int)) = true := by simp; omega
        have HH := hQ0 (HE.out.symm.trans he)
        clear he
        go_wp2_with (first | (go_at_call 183; refine (let_any _ _).mono ?_; rintro e w' ⟨rfl, rfl⟩) | (go_at_call 184; refine (dig_any _ _).mono ?_; rintro e w' ⟨rfl, rfl⟩))
        refine bodyPost_ret (v := .tuple #[.agg #[.int .i64 0, .string ⟨#[]⟩, .int .i64 0, .int .i64 0], .int .i64 4, .int .i64 i]) (by simp only [results, Tryz.results153]; go_simp) rfl ⟨?_, .inl ⟨4, i, wr_nodig HC.out HL.out (by rw [if_neg HM.out]) HH.out, rfl⟩⟩
        ((with_reducible (repeat (first | exact bR _ _ | apply bS | apply bA | apply bD | refine bT ?_ (by assumption) ?_ | refine bO (by assumption) ?_ ?_))) <;> (first | omega | (simp <;> omega)))
      · have he2 : ((k : Int) == (i : Int)) = false := by simp; omega
        have HN := hQ0 (fun h => he (HE.out.trans h) : run digB s (i) ≠ i)
        by_cases hb : 1073741824 < n
        · have HH : Hid (1073741824 < num 1073741825 s (i) 0) := by rcases HR.out with h | h; exact absurd hb (by omega); exact h.2
          go_wp2_with (first | (go_at_call 183; refine (let_any _ _).mono ?_; rintro e w' ⟨rfl, rfl⟩) | (go_at_call 184; refine (dig_any _ _).mono ?_; rintro e w' ⟨rfl, rfl⟩))
          refine bodyPost_ret (v := .tuple #[.agg #[.int .i64 0, .string ⟨#[]⟩, .int .i64 0, .int .i64 0], .int .i64 5, .int .i64 i]) (by simp only [results, Tryz.results153]; go_simp) rfl ⟨?_, .inl ⟨5, i, wr_range HC.out HL.out (by rw [if_neg HM.out]) HN.out HH.out, rfl⟩⟩
          ((with_reducible (repeat (first | exact bR _ _ | apply bS | apply bA | apply bD | refine bT ?_ (by assumption) ?_ | refine bO (by assumption) ?_ ?_))) <;> (first | omega | (simp <;> omega)))
        · have HH : Hid (num 1073741825 s (i) 0 = n) := by rcases HR.out with h | h; exact h.1.symm; exact absurd h.1 hb
          have HHb : Hid (n ≤ 1073741824) := Int.not_lt.1 hb
          cases hq : letB (cOf s k)
          · go_wp2_with (first | (go_at_call 183; refine (let_any _ _).mono ?_; rintro e w' ⟨rfl, rfl⟩) | (go_at_call 184; refine (dig_any _ _).mono ?_; rintro e w' ⟨rfl, rfl⟩))
            refine bodyPost_ret (v := .tuple #[.agg #[.int .i64 2, .string (s.extract i k), .int .i64 (n), .int .i64 i], .int .i64 0, .int .i64 0]) (by simp only [results, Tryz.results153]; go_simp) rfl ⟨?_, .inr ⟨2, s.extract i k, n, k, ?_, rfl⟩⟩
            · ((with_reducible (repeat (first | exact bR _ _ | apply bS | apply bA | apply bD | refine bT ?_ (by assumption) ?_ | refine bO (by assumption) ?_ ?_))) <;> (first | omega | (simp <;> omega)))
            · rw [wr_num HC.out HL.out (by rw [if_neg HM.out]) HE.out.symm he HH.out (Int.not_lt.2 HHb.out) (fun h => by rw [hq] at h; exact absurd h.2 (by simp)), if_neg HM.out]
          · go_wp2_with (first | (go_at_call 183; refine (let_any _ _).mono ?_; rintro e w' ⟨rfl, rfl⟩) | (go_at_call 184; refine (dig_any _ _).mono ?_; rintro e w' ⟨rfl, rfl⟩))
            refine bodyPost_ret (v := .tuple #[.agg #[.int .i64 0, .string ⟨#[]⟩, .int .i64 0, .int .i64 0], .int .i64 4, .int .i64 k]) (by simp only [results, Tryz.results153]; go_simp) rfl ⟨?_, .inl ⟨4, k, wr_glued HC.out HL.out (by rw [if_neg HM.out]) HE.out.symm he HH.out (Int.not_lt.2 HHb.out) hlt hq, rfl⟩⟩
            ((with_reducible (repeat (first | exact bR _ _ | apply bS | apply bA | apply bD | refine bT ?_ (by assumption) ?_ | refine bO (by assumption) ?_ ?_))) <;> (first | omega | (simp <;> omega)))
    · have hst := hQ0 ((run_step hlt hp).trans HK.out)
      have hst2 := hQ0 ((num_step hlt hp).trans HN.out)
      have hd : 48 ≤ cOf s k ∧ cOf s k ≤ 57 := by simpa [digB] using hp
      obtain ⟨hd1, hd2⟩ := hd
      go_wp2_with (first | (go_at_call 183; refine (let_any _ _).mono ?_; rintro e w' ⟨rfl, rfl⟩) | (go_at_call 184; refine (dig_any _ _).mono ?_; rintro e w' ⟨rfl, rfl⟩))
      all_goals
       go_round
       case rel => exact ⟨k + 1, min (10 * n + (cOf s k - 48)) 2147483648, by omega, by omega, by go_num, by congr 1; omega, by omega, by omega, hst.out, hst2.out⟩
       case measure => simp [intOf]; omega
  · have hEk : k = E := by rw [← HK.out]; exact (run_stop (fun h => hlt h.1)).symm
    have hVk : n = V := by rw [← HN.out]; exact (num_stop (fun h => hlt h.1)).symm
    subst hEk hVk
    clear HK HN
    by_cases he : k = i
    · have he2 : ((k : Int) == (i : Int)) = true := by simp; omega
      have HH := hQ0 (HE.out.symm.trans he)
      clear he
      go_wp2_with (first | (go_at_call 183; refine (let_any _ _).mono ?_; rintro e w' ⟨rfl, rfl⟩) | (go_at_call 184; refine (dig_any _ _).mono ?_; rintro e w' ⟨rfl, rfl⟩))
      refine bodyPost_ret (v := .tuple #[.agg #[.int .i64 0, .string ⟨#[]⟩, .int .i64 0, .int .i64 0], .int .i64 4, .int .i64 i]) (by simp only [results, Tryz.results153]; go_simp) rfl ⟨?_, .inl ⟨4, i, wr_nodig HC.out HL.out (by rw [if_neg HM.out]) HH.out, rfl⟩⟩
      ((with_reducible (repeat (first | exact bR _ _ | apply bS | apply bA | apply bD | refine bT ?_ (by assumption) ?_ | refine bO (by assumption) ?_ ?_))) <;> (first | omega | (simp <;> omega)))
    · have he2 : ((k : Int) == (i : Int)) = false := by simp; omega
      have HN := hQ0 (fun h => he (HE.out.trans h) : run digB s (i) ≠ i)
      by_cases hb : 1073741824 < n
      · have HH : Hid (1073741824 < num 1073741825 s (i) 0) := by rcases HR.out with h | h; exact absurd hb (by omega); exact h.2
        go_wp2_with (first | (go_at_call 183; refine (let_any _ _).mono ?_; rintro e w' ⟨rfl, rfl⟩) | (go_at_call 184; refine (dig_any _ _).mono ?_; rintro e w' ⟨rfl, rfl⟩))
        refine bodyPost_ret (v := .tuple #[.agg #[.int .i64 0, .string ⟨#[]⟩, .int .i64 0, .int .i64 0], .int .i64 5, .int .i64 i]) (by simp only [results, Tryz.results153]; go_simp) rfl ⟨?_, .inl ⟨5, i, wr_range HC.out HL.out (by rw [if_neg HM.out]) HN.out HH.out, rfl⟩⟩
        ((with_reducible (repeat (first | exact bR _ _ | apply bS | apply bA | apply bD | refine bT ?_ (by assumption) ?_ | refine bO (by assumption) ?_ ?_))) <;> (first | omega | (simp <;> omega)))
      · have HH : Hid (num 1073741825 s (i) 0 = n) := by rcases HR.out with h | h; exact h.1.symm; exact absurd h.1 hb
        have HHb : Hid (n ≤ 1073741824) := Int.not_lt.1 hb
        go_wp2_with (first | (go_at_call 183; refine (let_any _ _).mono ?_; rintro e w' ⟨rfl, rfl⟩) | (go_at_call 184; refine (dig_any _ _).mono ?_; rintro e w' ⟨rfl, rfl⟩))
        refine bodyPost_ret (v := .tuple #[.agg #[.int .i64 2, .string (s.extract i k), .int .i64 (n), .int .i64 i], .int .i64 0, .int .i64 0]) (by simp only [results, Tryz.results153]; go_simp) rfl ⟨?_, .inr ⟨2, s.extract i k, n, k, ?_, rfl⟩⟩
        · ((with_reducible (repeat (first | exact bR _ _ | apply bS | apply bA | apply bD | refine bT ?_ (by assumption) ?_ | refine bO (by assumption) ?_ ?_))) <;> (first | omega | (simp <;> omega)))
        · rw [wr_num HC.out HL.out (by rw [if_neg HM.out]) HE.out.symm he HH.out (Int.not_lt.2 HHb.out) (fun h => hlt h.1), if_neg HM.out]
theorem word_any (s : ByteArray) (i : Nat) (w : World) (hs : s.size ≤ 20000) (hi : i < s.size) : Calls Tryz.prog 153 #[.string s, .int .i64 i] w (WordOut s i w.heap.size w) := by
 by_cases hc : cOf s i = 59
 · exact word_semi s i w hs hi hc
 · cases hl : letB (cOf s i)
   · by_cases hm : cOf s i = 45
     · exact word_minus s i w hs hi hc hl hm
     · exact word_plain s i w hs hi hc hl hm
   · exact word_name s i w hs hi hc hl
attribute [local go_sem] cOf_get
def nameB (s : ByteArray) : Bool := decide (1 ≤ s.size ∧ s.size ≤ 12 ∧ letB (cOf s 0) = true ∧ run alnumB s 0 = s.size)
theorem rune_at (s : ByteArray) (pos : Nat) (h : pos < s.size) : (Utf8.decode s pos = ((cOf s pos).toNat, 1) ∧ cOf s pos < 128) ∨ (128 ≤ (Utf8.decode s pos).1 ∧ 128 ≤ cOf s pos) := by
 have e := cOf_get h
 by_cases ha : (s[pos]'h).toNat < 128
 · left
   rw [decode_ascii s pos h ha]
   exact ⟨by rw [← e]; rfl, by omega⟩
 · right
   exact ⟨(decode_high s pos h (by omega)).1, by omega⟩
theorem nameB_bad {s : ByteArray} {k : Nat} (hk : k < s.size) (h : alnumB (cOf s k) = false) (hr : run alnumB s k = run alnumB s 0) : nameB s = false := by
 unfold nameB
 rw [decide_eq_false_iff_not]
 rintro ⟨_, _, _, h4⟩
 rw [run_stop (fun hh => by rw [h] at hh; exact absurd hh.2 (by simp))] at hr
 omega
theorem nameB_first {s : ByteArray} (h : letB (cOf s 0) = false) : nameB s = false := by
 unfold nameB
 rw [decide_eq_false_iff_not]
 rintro ⟨_, _, h3, _⟩
 rw [h] at h3; exact absurd h3 (by simp)
theorem alnum_ge {c : Int} (h : 128 ≤ c) : alnumB c = false := by
 simp [alnumB, letB, digB]; omega
set_option maxRecDepth 1000000 in
set_option maxHeartbeats 1000000 in
theorem name_any (s : ByteArray) (w : World) (hm : s.size ≤ maxLen) :
    Calls Tryz.prog 78 #[.string s] w fun e w' => e = .returned (.bool (nameB s)) ∧ Below w.heap.size w w' := by
  unfold maxLen at hm
  go_enter Tryz.func78, Tryz.ntmps78; (try simp only [List.append_eq, List.cons_append, List.nil_append])
  go_wp2
  go_loopw [] (fun w' => ∃ pos : Nat, w' = w.iter s pos ∧ pos ≤ s.size ∧ Hid (run alnumB s pos = run alnumB s 0) ∧ Hid (0 < pos → letB (cOf s 0) = true)) (fun w' => s.size - w'.iterPos w.heap.size)
  case atStart => exact ⟨0, rfl, by omega, rfl, fun h => absurd h (by omega)⟩
  case round =>
    obtain ⟨pos, rfl, hps, HR, HL⟩ := hrel
    by_cases hp : pos < s.size
    · have hnx : ∀ ty, (Instr.next (.pointer (some ⟨w.heap.size, 0, none⟩)) true ty).run Tryz.prog (w.iter s pos) = _ := fun ty => run_next_any w s pos ty hp
      rcases rune_at s pos hp with ⟨hd, hc⟩ | ⟨hd, hc⟩
      · rw [hd] at hnx
        have hcb := (cOf_bd s pos).1
        have hcn : (((cOf s pos).toNat : Nat) : Int) = cOf s pos := Int.toNat_of_nonneg hcb
        simp only [hcn] at hnx
        cases hl : letB (cOf s pos)
        · have HP := hQ0 hl
          have hl' : (¬ 97 ≤ cOf s pos) ∨ (97 ≤ cOf s pos ∧ ¬ cOf s pos ≤ 122) := by simp [letB] at hl; omega
          clear hl hd
          by_cases h0 : pos = 0
          · subst h0
            rcases hl' with hl' | ⟨hl', hl2'⟩
            all_goals
              go_wp2
              go_ret
              refine ⟨ret_bool ?_, ?_⟩
              · rw [nameB_first HP.out]
              · exact (Below.refl _ _).alloc (Nat.le_refl _) _
          · have h0' : ((pos : Int) == 0) = false := by simp; omega
            cases hdg : digB (cOf s pos)
            · have hbad := hQ0 (nameB_bad hp (show alnumB (cOf s pos) = false by simp [alnumB, HP.out, hdg]) HR.out)
              have hd' : (cOf s pos < 48) ∨ (¬ cOf s pos < 48 ∧ 57 < cOf s pos) := by simp [digB] at hdg; omega
              clear hdg
              rcases hl' with hl' | ⟨hl', hl2'⟩ <;> rcases hd' with hd' | ⟨hd', hd2'⟩
              all_goals first
                | (exfalso; omega)
                | (go_wp2
                   go_ret
                   refine ⟨ret_bool ?_, ?_⟩
                   · rw [hbad.out]
                   · exact (Below.refl _ _).alloc (Nat.le_refl _) _)
            · have hd' : 48 ≤ cOf s pos ∧ cOf s pos ≤ 57 := by simpa [digB] using hdg
              have hst := hQ0 ((run_step hp (show alnumB (cOf s pos) = true by simp [alnumB, hdg])).trans HR.out)
              obtain ⟨hd1, hd2⟩ := hd'
              clear hdg hl'
              have hl1 : ¬ 97 ≤ cOf s pos := by omega
              have hd3 : ¬ cOf s pos < 48 := by omega
              have hd4 : ¬ 57 < cOf s pos := by omega
              go_wp2
              go_roundw
              case rel => exact ⟨pos + 1, rfl, by omega, hst.out, fun _ => HL.out (by omega)⟩
              case measure => simp; omega
        · have hl' : 97 ≤ cOf s pos ∧ cOf s pos ≤ 122 := by simpa [letB] using hl
          have hst := hQ0 ((run_step hp (show alnumB (cOf s pos) = true by simp [alnumB, hl])).trans HR.out)
          obtain ⟨hl1, hl2⟩ := hl'
          have HP := hQ0 hl
          clear hl hd
          go_wp2
          go_roundw
          case rel => exact ⟨pos + 1, rfl, by omega, hst.out, fun _ => by
            rcases Nat.eq_zero_or_pos pos with h | h
            · have := HP.out; rw [h] at this; exact this
            · exact HL.out h⟩
          case measure => simp; omega
      · have hbad := hQ0 (nameB_bad hp (alnum_ge hc) HR.out)
        obtain ⟨r, hr⟩ : ∃ r, r = (Utf8.decode s pos).1 := ⟨_, rfl⟩
        rw [← hr] at hd hnx
        have hr1 : ¬ (r : Int) ≤ 122 := by omega
        have hr2 : (97 : Int) ≤ (r : Int) := by omega
        have hr3 : (57 : Int) < (r : Int) := by omega
        have hr4 : ¬ (r : Int) < 48 := by omega
        have hr5 : r ≤ 2147483647 := by rw [hr]; exact decode_le s pos
        clear hr hc
        by_cases h0 : pos = 0
        · subst h0
          go_wp2
          go_ret
          refine ⟨ret_bool ?_, ?_⟩
          · rw [hbad.out]
          · exact (Below.refl _ _).alloc (Nat.le_refl _) _
        · have h0' : ((pos : Int) == 0) = false := by simp; omega
          go_wp2
          go_ret
          refine ⟨ret_bool ?_, ?_⟩
          · rw [hbad.out]
          · exact (Below.refl _ _).alloc (Nat.le_refl _) _
    · have hnx : ∀ ty, (Instr.next (.pointer (some ⟨w.heap.size, 0, none⟩)) true ty).run Tryz.prog (w.iter s pos) = _ := fun ty => run_next_end w s pos ty hp
      obtain rfl : pos = s.size := by omega
      have he0 : nameB s = (decide (1 ≤ s.size) && decide (s.size ≤ 12)) := by
        unfold nameB
        have hrr := HR.out
        rw [run_stop (fun h => absurd h.1 (by omega))] at hrr
        rcases Nat.eq_zero_or_pos s.size with h | h
        · simp [h]
        · have h2 := HL.out h
          simp [h2, ← hrr]
      have he := hQ0 he0
      clear he0
      by_cases c1 : 1 ≤ s.size
      · by_cases c2 : s.size ≤ 12
        · go_wp2
          go_ret
          refine ⟨ret_bool ?_, (Below.refl _ _).alloc (Nat.le_refl _) _⟩
          rw [he.out]; first | (simp [*]; done) | (simp [*]; omega)
        · go_wp2
          go_ret
          refine ⟨ret_bool ?_, (Below.refl _ _).alloc (Nat.le_refl _) _⟩
          rw [he.out]; first | (simp [*]; done) | (simp [*]; omega)
      · go_wp2
        go_ret
        refine ⟨ret_bool ?_, (Below.refl _ _).alloc (Nat.le_refl _) _⟩
        rw [he.out]; first | (simp [*]; done) | (simp [*]; omega)
set_option maxRecDepth 1000000 in
set_option maxHeartbeats 1000000 in
theorem rname_any (s : ByteArray) (w : World) (hm : s.size ≤ maxLen) :
  Calls Tryz.prog 37 #[.string s] w fun e w' => e = .returned (.bool (nameB s)) ∧ Below w.heap.size w w' := by
 unfold maxLen at hm
 by_cases h0 : s.size = 0
 · have he0 : nameB s = false := by simp [nameB, h0]
   have he := hQ0 he0
   clear he0
   have h0' : ((s.size : Int) == 0) = true := beq_iff_eq.2 (by omega)
   clear h0
   go_enter Tryz.func37, Tryz.ntmps37; (try simp only [List.append_eq, List.cons_append, List.nil_append])
   go_wp2_with fail
   go_ret
   exact ⟨ret_bool he.out.symm, Below.refl _ _⟩
 · have h0' : ((s.size : Int) == 0) = false := beq_eq_false_iff_ne.2 (by omega)
   by_cases h1 : 12 < s.size
   · have he0 : nameB s = false := by simp [nameB]; omega
     have he := hQ0 he0
     clear he0
     clear h0
     go_enter Tryz.func37, Tryz.ntmps37; (try simp only [List.append_eq, List.cons_append, List.nil_append])
     go_wp2_with fail
     go_ret
     exact ⟨ret_bool he.out.symm, Below.refl _ _⟩
   · cases hl : letB (cOf s 0)
     · have he := hQ0 (nameB_first hl)
       have hlt : 0 < s.size := by omega
       clear h0
       go_enter Tryz.func37, Tryz.ntmps37; (try simp only [List.append_eq, List.cons_append, List.nil_append])
       go_wp2_with (go_at_call 87; refine (rlet_any _ _).mono ?_; rintro e w' ⟨rfl, rfl⟩)
       go_ret
       exact ⟨ret_bool he.out.symm, Below.refl _ _⟩
     · have hlt : 0 < s.size := by omega
       have HL := hQ0 hl
       clear h0
       go_enter Tryz.func37, Tryz.ntmps37; (try simp only [List.append_eq, List.cons_append, List.nil_append])
       go_wp2_with (go_at_call 87; refine (rlet_any _ _).mono ?_; rintro e w' ⟨rfl, rfl⟩)
       clear hl
       go_loop [3] (fun t => ∃ k : Nat, k ≤ s.size ∧ t = .int .i64 k ∧ Hid (run alnumB s k = run alnumB s 0)) (fun t => s.size - (intOf t).toNat)
       case atStart => exact ⟨0, by omega, rfl, rfl⟩
       case round =>
        obtain ⟨k, hk, rfl, HR⟩ := hrel
        by_cases hltk : k < s.size
        · cases hp : letB (cOf s k)
          · cases hp2 : digB (cOf s k)
            · have hbad := hQ0 (nameB_bad hltk (show alnumB (cOf s k) = false by simp [alnumB, hp, hp2]) HR.out)
              go_wp2_with (first | (go_at_call 87; refine (rlet_any _ _).mono ?_; rintro e w' ⟨rfl, rfl⟩) | (go_at_call 88; refine (rdig_any _ _).mono ?_; rintro e w' ⟨rfl, rfl⟩))
              go_ret
              exact ⟨ret_bool hbad.out.symm, Below.refl _ _⟩
            · have hst := hQ0 ((run_step hltk (show alnumB (cOf s k) = true by simp [alnumB, hp2])).trans HR.out)
              go_wp2_with (first | (go_at_call 87; refine (rlet_any _ _).mono ?_; rintro e w' ⟨rfl, rfl⟩) | (go_at_call 88; refine (rdig_any _ _).mono ?_; rintro e w' ⟨rfl, rfl⟩))
              go_round
              case rel => exact ⟨k + 1, by omega, by go_num, hst.out⟩
              case measure => simp [intOf]; omega
          · have hst := hQ0 ((run_step hltk (show alnumB (cOf s k) = true by simp [alnumB, hp])).trans HR.out)
            go_wp2_with (first | (go_at_call 87; refine (rlet_any _ _).mono ?_; rintro e w' ⟨rfl, rfl⟩) | (go_at_call 88; refine (rdig_any _ _).mono ?_; rintro e w' ⟨rfl, rfl⟩))
            go_round
            case rel => exact ⟨k + 1, by omega, by go_num, hst.out⟩
            case measure => simp [intOf]; omega
        · obtain rfl : k = s.size := by omega
          have he : Hid (nameB s = true) := by
           have hrr := HR.out
           rw [run_stop (fun h => absurd h.1 (by omega))] at hrr
           unfold nameB
           rw [decide_eq_true_eq]
           exact ⟨by omega, by omega, HL.out, hrr.symm⟩
          go_wp2_with fail
          go_ret
          exact ⟨ret_bool he.out.symm, Below.refl _ _⟩
end Go.Proofs.YtbpcjpiaimdpnaaGreatDoor
namespace Go.Proofs.YtbpcjpiaimdpnaaGreatDoor
open Go Go.RowKit Go.Maps
set_option linter.unusedVariables false
abbrev HU := Unit
def uT : DataW HU := .lit (.bool true)
def kl (s : ByteArray) : Lit := .string s.data.toList
theorem atKey_fold (u z : DataW HU) (k : Lit) : ∀ (acc : List Lit) (m : DataW HU), IsMap m → (∀ x ∈ acc, WideAt.IsKeyLit x) → (k ∈ acc → (acc.foldl (fun m x => m.put x u) m).atKey k z = u) ∧ (¬ k ∈ acc → (acc.foldl (fun m x => m.put x u) m).atKey k z = m.atKey k z)
 | [], m, hm, h => ⟨fun h => by simp at h, fun _ => rfl⟩
 | x :: l, m, hm, h => by
  rw [List.foldl_cons]
  obtain ⟨h1, h2⟩ := atKey_fold u z k l _ (hm.put x u) fun y hy => h y (by simp [hy])
  by_cases h3 : k ∈ l
  · exact ⟨fun _ => h1 h3, fun hn => absurd (List.mem_cons_of_mem _ h3) hn⟩
  · refine ⟨fun hk => ?_, fun hn => ?_⟩
    · rcases List.mem_cons.1 hk with e | hk
      · subst e
        rw [h2 h3, atKey_put_same hm (h k (by simp))]
      · exact absurd hk h3
    · rw [h2 h3, atKey_put_other fun e => hn (by rw [e]; simp)]
theorem kl_inj {a b : ByteArray} (h : kl a = kl b) : a = b := by
 unfold kl at h
 simp only [Lit.string.injEq] at h
 exact ByteArray.ext (Array.toList_inj.1 h)
def SeenAt (w : World) (b n : Nat) (L : List ByteArray) : Prop := w.ownsMap Tryz.prog 9 (plainElem (H := HU) Tryz.prog 4) b n (setOf uT (L.map kl)) ∧ ∀ s ∈ L, s.size ≤ maxLen
theorem seen_key (s : ByteArray) (h : s.size ≤ maxLen) : keyOf Tryz.prog 9 (.string s) = some (kl s) := WideMaps.keyOf_string_mk Tryz.underlying9 h
theorem kl_isKey (s : ByteArray) : WideAt.IsKeyLit (kl s) := by first | trivial | exact True.intro | (unfold kl; simp [WideAt.IsKeyLit])
def hasN (L : List ByteArray) (s : ByteArray) : Bool := L.any fun t => decide (t = s)
theorem hasN_iff {L : List ByteArray} {s : ByteArray} : hasN L s = true ↔ s ∈ L := by
 unfold hasN
 rw [List.any_eq_true]
 exact ⟨fun ⟨t, h1, h2⟩ => by rw [← of_decide_eq_true h2]; exact h1, fun h => ⟨s, h, decide_eq_true rfl⟩⟩
theorem plainElem_bool_inv {P : Program} {e : TypeId} (he : P.underlying e = some .bool) {v : Value} {z : DataW HU × List MemPlace} (h : plainElem P e v = some z) : ∃ a, v = .bool a ∧ z = (.lit (.bool a), []) := by
 unfold plainElem at h
 rw [he] at h
 cases v <;> simp at h
 exact ⟨_, rfl, h.symm⟩
theorem SeenAt.look {w : World} {b n : Nat} {L : List ByteArray} (h : SeenAt w b n L) (s : ByteArray) (hs : s.size ≤ maxLen) : (Instr.lookup 69 (.map (some b)) (.string s) false).run Tryz.prog w = .ok (.bool (hasN L s)) w := by
 obtain ⟨v, ps, hrun, hv⟩ := World.ownsMap.lookup h.1 (string_keyed Tryz.underlying9) Tryz.underlying69 (z := .bool false) (by kernel_rfl) (plainElem_bool Tryz.underlying4 false) (seen_key s hs)
 obtain ⟨a, rfl, hz⟩ := plainElem_bool_inv Tryz.underlying4 hv
 simp only [Prod.mk.injEq] at hz
 have h1 := hz.1
 unfold setOf at h1
 obtain ⟨k1, k2⟩ := atKey_fold uT (.lit (.bool false)) (kl s) (L.map kl) (.map []) isMap_empty (fun x hx => by obtain ⟨y, _, rfl⟩ := List.mem_map.1 hx; exact kl_isKey y)
 have hmem : kl s ∈ L.map kl ↔ s ∈ L := ⟨fun hx => by obtain ⟨y, hy, e⟩ := List.mem_map.1 hx; rwa [← kl_inj e], fun hx => List.mem_map_of_mem hx⟩
 have key : a = hasN L s := by
  by_cases hm : s ∈ L
  · rw [k1 (hmem.2 hm)] at h1
    rw [hasN_iff.2 hm]
    unfold uT at h1
    simp only [DataW.lit.injEq, Lit.bool.injEq] at h1
    exact h1.symm
  · rw [k2 (fun e => hm (hmem.1 e))] at h1
    have h2 : hasN L s = false := by
     cases h : hasN L s with
     | false => rfl
     | true => exact absurd (hasN_iff.1 h) hm
    rw [h2]
    have h3 : (DataW.map [] : DataW HU).atKey (kl s) (.lit (.bool false)) = .lit (.bool false) := rfl
    rw [h3] at h1
    simp only [DataW.lit.injEq, Lit.bool.injEq] at h1
    exact h1.symm
 rw [hrun, key]
theorem SeenAt.kept {w w' : World} {b n : Nat} {L : List ByteArray} {row : Option Nat} (h : SeenAt w b n L) (hg : w.grownBy w' row) (hne : some b ≠ row) : SeenAt w' b n L := ⟨h.1.kept hg hne, h.2⟩
theorem SeenAt.block {w w' : World} {b n : Nat} {L : List ByteArray} (h : SeenAt w b n L) (hb : w'.heap[b]? = w.heap[b]?) : SeenAt w' b n L := by
 obtain ⟨⟨es, clock, h1, h2⟩, h3⟩ := h
 exact ⟨⟨es, clock, hb.trans h1, h2⟩, h3⟩
theorem SeenAt.lt {w : World} {b n : Nat} {L : List ByteArray} (h : SeenAt w b n L) : b < w.heap.size := h.1.lt
theorem SeenAt.new (w : World) : SeenAt (w.alloc (.map #[] 0)) w.heap.size 0 [] := ⟨World.ownsMap_made w Tryz.prog 9 _, by simp⟩
structure CkAt (w : World) (cb mb n : Nat) (e : Int) (L : List ByteArray) : Prop where
  c0 : w.cell? ⟨cb, 0, none⟩ = some (.map (some mb))
  c1 : w.cell? ⟨cb, 1, none⟩ = some (.int .i64 e)
  fz : ∀ o, w.frozen? ⟨cb, o, none⟩ = false
  lt : cb < w.heap.size
  ne : cb ≠ mb
  sn : SeenAt w mb n L
theorem CkAt.below {w w' : World} {cb mb n B : Nat} {e : Int} {L : List ByteArray} (h : CkAt w cb mb n e L) (hb : Below B w w') (hB : w.heap.size ≤ B) : CkAt w' cb mb n e L := by
 have hr := hb.block cb (Nat.lt_of_lt_of_le h.lt hB)
 exact ⟨(World.cell?_of_block (a := ⟨cb, 0, none⟩) hr).trans h.c0, (World.cell?_of_block (a := ⟨cb, 1, none⟩) hr).trans h.c1, fun o => (World.frozen?_of_block (a := ⟨cb, o, none⟩) hr).trans (h.fz o), Nat.lt_of_lt_of_le h.lt hb.size, h.ne, h.sn.block (hb.block mb (Nat.lt_of_lt_of_le h.sn.lt hB))⟩
def lookC (L : List ByteArray) (nm : ByteArray) (f s : Bool) : Int := if nameB nm = false then 6 else if hasN L nm = true then 7 else if f = false then 5 else if s = false then 10 else 0
def lookR (st : Int × List ByteArray) (nm : ByteArray) (f s : Bool) : Int × List ByteArray := if st.1 ≠ 0 then st else (lookC st.2 nm f s, st.2 ++ [nm])
def LookOut (B cb mb n : Nat) (R : Int × List ByteArray) (w : World) (ε : Ending) (w' : World) : Prop := ε = .returned (.tuple #[]) ∧ Below B w w' ∧ CkAt w' cb mb (n + 1) R.1 R.2
theorem setOf_put (L : List ByteArray) (nm : ByteArray) : (setOf uT (L.map kl)).put (kl nm) uT = setOf uT ((L ++ [nm]).map kl) := by rw [List.map_append, List.map_cons, List.map_nil, setOf_snoc]
set_option maxRecDepth 100000 in
set_option maxHeartbeats 2000000 in
theorem look_same (w : World) (cb mb n B : Nat) (e : Int) (L : List ByteArray) (nm : ByteArray) (f s : Bool) (h : CkAt w cb mb n e L) (he : e ≠ 0) :
  Calls Tryz.prog 27 #[.pointer (some ⟨cb, 0, none⟩), .string nm, .bool f, .bool s] w fun ε w' => ε = .returned (.tuple #[]) ∧ w = w' := by
 obtain ⟨c0, c1, fz, lt, ne, sn⟩ := h
 have he' : (e != 0) = true := by simpa using he
 clear sn he
 go_enter Tryz.func27, Tryz.ntmps27; (try simp only [List.append_eq, List.cons_append, List.nil_append])
 go_wp2_with fail
 exact bodyPost_ret (v := .tuple #[]) (by simp only [results, Tryz.results27]; go_simp) rfl ⟨rfl, rfl⟩
set_option maxRecDepth 100000 in
set_option maxHeartbeats 8000000 in
theorem look_new (w : World) (cb mb n B : Nat) (L : List ByteArray) (nm : ByteArray) (f s : Bool) (h : CkAt w cb mb n 0 L) (hm : nm.size ≤ maxLen) (hn : n < maxLen) (hB : B ≤ cb) (hBm : B ≤ mb) :
  Calls Tryz.prog 27 #[.pointer (some ⟨cb, 0, none⟩), .string nm, .bool f, .bool s] w (LookOut B cb mb n (lookR (0, L) nm f s) w) := by
 have HCK := hQ0 h
 have hlt := h.lt
 obtain ⟨hd, hhd⟩ : ∃ b, b = hasN L nm := ⟨_, rfl⟩
 have HHD := hQ0 hhd
 have HNM := hQ0 (name_any nm w hm)
 obtain ⟨nb, hnb⟩ : ∃ b, b = nameB nm := ⟨_, rfl⟩
 rw [← hnb] at HNM
 obtain ⟨R, hRR⟩ : ∃ R, R = lookR (0, L) nm f s := ⟨_, rfl⟩
 have hR : R = (if nb = false then 6 else if hd = true then 7 else if f = false then 5 else if s = false then 10 else 0, L ++ [nm]) := by rw [hRR]; unfold lookR lookC; rw [if_neg (by simp), hnb, hhd]
 rw [← hRR]
 obtain ⟨c0, c1, fz, lt, ne, sn⟩ := h
 clear sn hhd hnb hRR
 go_enter Tryz.func27, Tryz.ntmps27; (try simp only [List.append_eq, List.cons_append, List.nil_append])
 cases nb
 · have HR := hQ0 (show R = (6, L ++ [nm]) by rw [hR]; simp)
   clear hR
   go_wp2_with fail
   (go_at_call 78; refine (HNM.out).mono ?_; rintro ε w1 ⟨rfl, hb1⟩)
   have hz1 := hb1.size
   obtain ⟨c0, c1, fz, lt, ne, sn⟩ := HCK.out.below hb1 (Nat.le_refl _)
   have HS := hQ0 sn
   have hlk := sn.look nm hm
   rw [← HHD.out] at hlk
   clear sn
   have HS1 := hQ0 (HS.out.block (Below.heap_setCell w1 ⟨cb, 1, none⟩ _ mb (Ne.symm ne)) : SeenAt (w1.setCell ⟨cb, 1, none⟩ (.int .i64 6)) mb n L)
   go_wp2_with (at_mapUpdate; refine wpList_mapUpdate_own _ rfl _ _ _ 69 rfl 9 4 (string_keyed Tryz.underlying9) Tryz.underlying69 _ mb n _ rfl HS1.out.1 hn _ _ (kl nm) rfl rfl (seen_key nm hm) uT [] (plainElem_bool Tryz.underlying4 true) ?_; intro w2 hown2 hg2)
   refine bodyPost_ret (v := .tuple #[]) (by simp only [results, Tryz.results27]; go_simp) rfl ⟨rfl, ?_⟩
   have hst : Below B w (w1.setCell ⟨cb, 1, none⟩ (.int .i64 6)) := by first | exact hb1.mono (by omega) | exact (hb1.mono (by omega)).setCell (by show B ≤ cb; omega) _
   have hsz : (w1.setCell ⟨cb, 1, none⟩ (.int .i64 6)).heap.size = w1.heap.size := by first | rfl | simp
   have hne1 : cb ≠ mb := ne
   have hr := hg2.block cb (by rw [hsz]; exact lt) (fun h => hne1 (Option.some.inj h))
   refine ⟨hst.grown hg2 (by rw [hsz]; omega) (fun k hk => by obtain rfl := Option.some.inj hk; exact hBm), ?_⟩
   · refine ⟨(World.cell?_of_block (a := ⟨cb, 0, none⟩) hr).trans ?_, (World.cell?_of_block (a := ⟨cb, 1, none⟩) hr).trans ?_, fun o => (World.frozen?_of_block (a := ⟨cb, o, none⟩) hr).trans ?_, ?_, ne, ?_, ?_⟩
     · go_simp
     · rw [HR.out]; go_simp
     · go_simp
     · exact Nat.lt_of_lt_of_le lt (by have := hg2.size; omega)
     · rw [HR.out]; simp only; rw [← setOf_put]; exact hown2
     · rw [HR.out]; intro s hs; rcases List.mem_append.1 hs with h | h
       · exact HS.out.2 s h
       · rw [List.mem_singleton] at h; rw [h]; exact hm
 · cases hd
   · cases f
     · have HR := hQ0 (show R = (5, L ++ [nm]) by rw [hR]; simp)
       clear hR
       go_wp2_with fail
       (go_at_call 78; refine (HNM.out).mono ?_; rintro ε w1 ⟨rfl, hb1⟩)
       have hz1 := hb1.size
       obtain ⟨c0, c1, fz, lt, ne, sn⟩ := HCK.out.below hb1 (Nat.le_refl _)
       have HS := hQ0 sn
       have hlk := sn.look nm hm
       rw [← HHD.out] at hlk
       clear sn
       have HS1 := hQ0 (HS.out.block (Below.heap_setCell w1 ⟨cb, 1, none⟩ _ mb (Ne.symm ne)) : SeenAt (w1.setCell ⟨cb, 1, none⟩ (.int .i64 5)) mb n L)
       go_wp2_with (at_mapUpdate; refine wpList_mapUpdate_own _ rfl _ _ _ 69 rfl 9 4 (string_keyed Tryz.underlying9) Tryz.underlying69 _ mb n _ rfl HS1.out.1 hn _ _ (kl nm) rfl rfl (seen_key nm hm) uT [] (plainElem_bool Tryz.underlying4 true) ?_; intro w2 hown2 hg2)
       refine bodyPost_ret (v := .tuple #[]) (by simp only [results, Tryz.results27]; go_simp) rfl ⟨rfl, ?_⟩
       have hst : Below B w (w1.setCell ⟨cb, 1, none⟩ (.int .i64 5)) := by first | exact hb1.mono (by omega) | exact (hb1.mono (by omega)).setCell (by show B ≤ cb; omega) _
       have hsz : (w1.setCell ⟨cb, 1, none⟩ (.int .i64 5)).heap.size = w1.heap.size := by first | rfl | simp
       have hne1 : cb ≠ mb := ne
       have hr := hg2.block cb (by rw [hsz]; exact lt) (fun h => hne1 (Option.some.inj h))
       refine ⟨hst.grown hg2 (by rw [hsz]; omega) (fun k hk => by obtain rfl := Option.some.inj hk; exact hBm), ?_⟩
       · refine ⟨(World.cell?_of_block (a := ⟨cb, 0, none⟩) hr).trans ?_, (World.cell?_of_block (a := ⟨cb, 1, none⟩) hr).trans ?_, fun o => (World.frozen?_of_block (a := ⟨cb, o, none⟩) hr).trans ?_, ?_, ne, ?_, ?_⟩
         · go_simp
         · rw [HR.out]; go_simp
         · go_simp
         · exact Nat.lt_of_lt_of_le lt (by have := hg2.size; omega)
         · rw [HR.out]; simp only; rw [← setOf_put]; exact hown2
         · rw [HR.out]; intro s hs; rcases List.mem_append.1 hs with h | h
           · exact HS.out.2 s h
           · rw [List.mem_singleton] at h; rw [h]; exact hm
     · cases s
       · have HR := hQ0 (show R = (10, L ++ [nm]) by rw [hR]; simp)
         clear hR
         go_wp2_with fail
         (go_at_call 78; refine (HNM.out).mono ?_; rintro ε w1 ⟨rfl, hb1⟩)
         have hz1 := hb1.size
         obtain ⟨c0, c1, fz, lt, ne, sn⟩ := HCK.out.below hb1 (Nat.le_refl _)
         have HS := hQ0 sn
         have hlk := sn.look nm hm
         rw [← HHD.out] at hlk
         clear sn
         have HS1 := hQ0 (HS.out.block (Below.heap_setCell w1 ⟨cb, 1, none⟩ _ mb (Ne.symm ne)) : SeenAt (w1.setCell ⟨cb, 1, none⟩ (.int .i64 10)) mb n L)
         go_wp2_with (at_mapUpdate; refine wpList_mapUpdate_own _ rfl _ _ _ 69 rfl 9 4 (string_keyed Tryz.underlying9) Tryz.underlying69 _ mb n _ rfl HS1.out.1 hn _ _ (kl nm) rfl rfl (seen_key nm hm) uT [] (plainElem_bool Tryz.underlying4 true) ?_; intro w2 hown2 hg2)
         refine bodyPost_ret (v := .tuple #[]) (by simp only [results, Tryz.results27]; go_simp) rfl ⟨rfl, ?_⟩
         have hst : Below B w (w1.setCell ⟨cb, 1, none⟩ (.int .i64 10)) := by first | exact hb1.mono (by omega) | exact (hb1.mono (by omega)).setCell (by show B ≤ cb; omega) _
         have hsz : (w1.setCell ⟨cb, 1, none⟩ (.int .i64 10)).heap.size = w1.heap.size := by first | rfl | simp
         have hne1 : cb ≠ mb := ne
         have hr := hg2.block cb (by rw [hsz]; exact lt) (fun h => hne1 (Option.some.inj h))
         refine ⟨hst.grown hg2 (by rw [hsz]; omega) (fun k hk => by obtain rfl := Option.some.inj hk; exact hBm), ?_⟩
         · refine ⟨(World.cell?_of_block (a := ⟨cb, 0, none⟩) hr).trans ?_, (World.cell?_of_block (a := ⟨cb, 1, none⟩) hr).trans ?_, fun o => (World.frozen?_of_block (a := ⟨cb, o, none⟩) hr).trans ?_, ?_, ne, ?_, ?_⟩
           · go_simp
           · rw [HR.out]; go_simp
           · go_simp
           · exact Nat.lt_of_lt_of_le lt (by have := hg2.size; omega)
           · rw [HR.out]; simp only; rw [← setOf_put]; exact hown2
           · rw [HR.out]; intro s hs; rcases List.mem_append.1 hs with h | h
             · exact HS.out.2 s h
             · rw [List.mem_singleton] at h; rw [h]; exact hm
       · have HR := hQ0 (show R = (0, L ++ [nm]) by rw [hR]; simp)
         clear hR
         go_wp2_with fail
         (go_at_call 78; refine (HNM.out).mono ?_; rintro ε w1 ⟨rfl, hb1⟩)
         have hz1 := hb1.size
         obtain ⟨c0, c1, fz, lt, ne, sn⟩ := HCK.out.below hb1 (Nat.le_refl _)
         have HS := hQ0 sn
         have hlk := sn.look nm hm
         rw [← HHD.out] at hlk
         clear sn
         have HS1 := HS
         go_wp2_with (at_mapUpdate; refine wpList_mapUpdate_own _ rfl _ _ _ 69 rfl 9 4 (string_keyed Tryz.underlying9) Tryz.underlying69 _ mb n _ rfl HS1.out.1 hn _ _ (kl nm) rfl rfl (seen_key nm hm) uT [] (plainElem_bool Tryz.underlying4 true) ?_; intro w2 hown2 hg2)
         refine bodyPost_ret (v := .tuple #[]) (by simp only [results, Tryz.results27]; go_simp) rfl ⟨rfl, ?_⟩
         have hst : Below B w (w1) := by first | exact hb1.mono (by omega) | exact (hb1.mono (by omega)).setCell (by show B ≤ cb; omega) _
         have hsz : (w1).heap.size = w1.heap.size := by first | rfl | simp
         have hne1 : cb ≠ mb := ne
         have hr := hg2.block cb (by rw [hsz]; exact lt) (fun h => hne1 (Option.some.inj h))
         refine ⟨hst.grown hg2 (by rw [hsz]; omega) (fun k hk => by obtain rfl := Option.some.inj hk; exact hBm), ?_⟩
         · refine ⟨(World.cell?_of_block (a := ⟨cb, 0, none⟩) hr).trans ?_, (World.cell?_of_block (a := ⟨cb, 1, none⟩) hr).trans ?_, fun o => (World.frozen?_of_block (a := ⟨cb, o, none⟩) hr).trans ?_, ?_, ne, ?_, ?_⟩
           · go_simp
           · rw [HR.out]; go_simp
           · go_simp
           · exact Nat.lt_of_lt_of_le lt (by have := hg2.size; omega)
           · rw [HR.out]; simp only; rw [← setOf_put]; exact hown2
           · rw [HR.out]; intro s hs; rcases List.mem_append.1 hs with h | h
             · exact HS.out.2 s h
             · rw [List.mem_singleton] at h; rw [h]; exact hm
   · have HR := hQ0 (show R = (7, L ++ [nm]) by rw [hR]; simp)
     clear hR
     go_wp2_with fail
     (go_at_call 78; refine (HNM.out).mono ?_; rintro ε w1 ⟨rfl, hb1⟩)
     have hz1 := hb1.size
     obtain ⟨c0, c1, fz, lt, ne, sn⟩ := HCK.out.below hb1 (Nat.le_refl _)
     have HS := hQ0 sn
     have hlk := sn.look nm hm
     rw [← HHD.out] at hlk
     clear sn
     have HS1 := hQ0 (HS.out.block (Below.heap_setCell w1 ⟨cb, 1, none⟩ _ mb (Ne.symm ne)) : SeenAt (w1.setCell ⟨cb, 1, none⟩ (.int .i64 7)) mb n L)
     go_wp2_with (at_mapUpdate; refine wpList_mapUpdate_own _ rfl _ _ _ 69 rfl 9 4 (string_keyed Tryz.underlying9) Tryz.underlying69 _ mb n _ rfl HS1.out.1 hn _ _ (kl nm) rfl rfl (seen_key nm hm) uT [] (plainElem_bool Tryz.underlying4 true) ?_; intro w2 hown2 hg2)
     refine bodyPost_ret (v := .tuple #[]) (by simp only [results, Tryz.results27]; go_simp) rfl ⟨rfl, ?_⟩
     have hst : Below B w (w1.setCell ⟨cb, 1, none⟩ (.int .i64 7)) := by first | exact hb1.mono (by omega) | exact (hb1.mono (by omega)).setCell (by show B ≤ cb; omega) _
     have hsz : (w1.setCell ⟨cb, 1, none⟩ (.int .i64 7)).heap.size = w1.heap.size := by first | rfl | simp
     have hne1 : cb ≠ mb := ne
     have hr := hg2.block cb (by rw [hsz]; exact lt) (fun h => hne1 (Option.some.inj h))
     refine ⟨hst.grown hg2 (by rw [hsz]; omega) (fun k hk => by obtain rfl := Option.some.inj hk; exact hBm), ?_⟩
     · refine ⟨(World.cell?_of_block (a := ⟨cb, 0, none⟩) hr).trans ?_, (World.cell?_of_block (a := ⟨cb, 1, none⟩) hr).trans ?_, fun o => (World.frozen?_of_block (a := ⟨cb, o, none⟩) hr).trans ?_, ?_, ne, ?_, ?_⟩
       · go_simp
       · rw [HR.out]; go_simp
       · go_simp
       · exact Nat.lt_of_lt_of_le lt (by have := hg2.size; omega)
       · rw [HR.out]; simp only; rw [← setOf_put]; exact hown2
       · rw [HR.out]; intro s hs; rcases List.mem_append.1 hs with h | h
         · exact HS.out.2 s h
         · rw [List.mem_singleton] at h; rw [h]; exact hm
end Go.Proofs.YtbpcjpiaimdpnaaGreatDoor
namespace Go.Proofs.YtbpcjpiaimdpnaaGreatDoor
open Go Go.RowKit
set_option linter.unusedVariables false
structure BoxAt (w : World) (b : Nat) (cs : List Value) : Prop where
  c : ∀ j u, cs[j]? = some u → w.cell? ⟨b, j, none⟩ = some u
  fz : ∀ o, w.frozen? ⟨b, o, none⟩ = false
  lt : b < w.heap.size
theorem BoxAt.block {w w' : World} {b : Nat} {cs : List Value} (h : BoxAt w b cs) (hs : w.heap.size ≤ w'.heap.size) (hb : w'.heap[b]? = w.heap[b]?) : BoxAt w' b cs :=
 ⟨fun j u hu => (World.cell?_of_block (a := ⟨b, j, none⟩) hb).trans (h.c j u hu), fun o => (World.frozen?_of_block (a := ⟨b, o, none⟩) hb).trans (h.fz o), Nat.lt_of_lt_of_le h.lt hs⟩
theorem BoxAt.below {w w' : World} {b B : Nat} {cs : List Value} (h : BoxAt w b cs) (hb : Below B w w') (hB : b < B) : BoxAt w' b cs := h.block hb.size (hb.block b hB)
theorem BoxAt.alloc {w : World} {b : Nat} {cs : List Value} (h : BoxAt w b cs) (o : Obj) : BoxAt (w.alloc o) b cs := h.block (by simp) (heap_alloc_old w o h.lt)
theorem BoxAt.low {w : World} {b : Nat} {cs : List Value} (h : BoxAt w b cs) {p : Addr} (hp : p.block ≠ b) (u : Value) : BoxAt (w.setCell p u) b cs := h.block (by simp) (Below.heap_setCell _ _ _ _ (by omega))
theorem BoxAt.drew {w : World} {b : Nat} {cs : List Value} (h : BoxAt w b cs) : BoxAt w.drew b cs := ⟨h.c, h.fz, h.lt⟩
theorem BoxAt.new (w : World) (cs : List Value) (e : TypeId) : BoxAt (w.alloc (.cells cs.toArray e)) w.heap.size cs :=
 ⟨fun j u hu => by rw [World.cell?_alloc_new]; simpa using hu, fun o => by go_simp, by simp⟩
theorem within_new1 (n x y : Int) (g : Nat) (w : World) (hg : g = w.heap.size) (h0 : 0 ≤ n) (h1 : n ≤ 1073741824) : Calls Tryz.prog 26 #[.int .i64 n, .slice (some ⟨g, 0, none⟩) 1 1] (w.alloc (.cells #[.int .i64 x, .int .i64 y] 23)) fun e w' => e = .returned (.bool (nearV n ⟨x, y⟩)) ∧ Below (w.heap.size + 1) (w.alloc (.cells #[.int .i64 x, .int .i64 y] 23)) w' := by
 subst hg
 have := within_any n [⟨x, y⟩] (some ⟨w.heap.size, 0, none⟩) 1 _ (vc_new w [⟨x, y⟩]) (by unfold maxLen; simp) h0 h1
 simp only [List.all_cons, List.all_nil, Bool.and_true] at this
 exact this.mono fun e w' h => ⟨h.1, h.2.mono (by simp)⟩
theorem level_new1 (x : Int) (g : Nat) (w : World) (hg : g = w.heap.size) : Calls Tryz.prog 28 #[.slice (some ⟨g, 0, none⟩) 1 1] (w.alloc (.cells #[.int .i64 x] 3)) fun e w' => e = .returned (.bool (in1 0 3 x)) ∧ w.alloc (.cells #[.int .i64 x] 3) = w' := by
 subst hg
 have := level_any [x] (some ⟨w.heap.size, 0, none⟩) 1 _ (is_new w [x]) (by unfold maxLen; simp)
 rw [inL1] at this
 exact this
theorem level_new2 (x y : Int) (g : Nat) (w : World) (hg : g = w.heap.size) : Calls Tryz.prog 28 #[.slice (some ⟨g, 0, none⟩) 2 2] (w.alloc (.cells #[.int .i64 x, .int .i64 y] 3)) fun e w' => e = .returned (.bool (in1 0 3 x && in1 0 3 y)) ∧ w.alloc (.cells #[.int .i64 x, .int .i64 y] 3) = w' := by
 subst hg
 have := level_any [x, y] (some ⟨w.heap.size, 0, none⟩) 2 _ (is_new w [x, y]) (by unfold maxLen; simp)
 rw [inL2] at this
 exact this
theorem at_new1 (a b : Int) (g : Nat) (w : World) (hg : g = w.heap.size) : Calls Tryz.prog 29 #[.slice (some ⟨g, 0, none⟩) 1 1] (w.alloc (.cells #[.int .i64 a, .int .i64 b] 23)) fun e w' => e = .returned (.bool (nearV 1048576 ⟨a, b⟩)) ∧ Below (w.heap.size + 1) (w.alloc (.cells #[.int .i64 a, .int .i64 b] 23)) w' := by
 subst hg
 have := at_any [⟨a, b⟩] (some ⟨w.heap.size, 0, none⟩) 1 _ (vc_new w [⟨a, b⟩]) (by unfold maxLen; simp)
 simp only [List.all_cons, List.all_nil, Bool.and_true] at this
 exact this.mono fun e w' h => ⟨h.1, h.2.mono (by simp)⟩
theorem at_new2 (a b c d : Int) (g : Nat) (w : World) (hg : g = w.heap.size) : Calls Tryz.prog 29 #[.slice (some ⟨g, 0, none⟩) 2 2] (w.alloc (.cells #[.int .i64 a, .int .i64 b, .int .i64 c, .int .i64 d] 23)) fun e w' => e = .returned (.bool (nearV 1048576 ⟨a, b⟩ && nearV 1048576 ⟨c, d⟩)) ∧ Below (w.heap.size + 1) (w.alloc (.cells #[.int .i64 a, .int .i64 b, .int .i64 c, .int .i64 d] 23)) w' := by
 subst hg
 have := at_any [⟨a, b⟩, ⟨c, d⟩] (some ⟨w.heap.size, 0, none⟩) 2 _ (vc_new w [⟨a, b⟩, ⟨c, d⟩]) (by unfold maxLen; simp)
 simp only [List.all_cons, List.all_nil, Bool.and_true] at this
 exact this.mono fun e w' h => ⟨h.1, h.2.mono (by simp)⟩
theorem at_new3 (a b c d x y : Int) (g : Nat) (w : World) (hg : g = w.heap.size) : Calls Tryz.prog 29 #[.slice (some ⟨g, 0, none⟩) 3 3] (w.alloc (.cells #[.int .i64 a, .int .i64 b, .int .i64 c, .int .i64 d, .int .i64 x, .int .i64 y] 23)) fun e w' => e = .returned (.bool (nearV 1048576 ⟨a, b⟩ && (nearV 1048576 ⟨c, d⟩ && nearV 1048576 ⟨x, y⟩))) ∧ Below (w.heap.size + 1) (w.alloc (.cells #[.int .i64 a, .int .i64 b, .int .i64 c, .int .i64 d, .int .i64 x, .int .i64 y] 23)) w' := by
 subst hg
 have := at_any [⟨a, b⟩, ⟨c, d⟩, ⟨x, y⟩] (some ⟨w.heap.size, 0, none⟩) 3 _ (vc_new w [⟨a, b⟩, ⟨c, d⟩, ⟨x, y⟩]) (by unfold maxLen; simp)
 simp only [List.all_cons, List.all_nil, Bool.and_true] at this
 exact this.mono fun e w' h => ⟨h.1, h.2.mono (by simp)⟩
theorem in_new1' (lo hi x : Int) (g : Nat) (w : World) (p : Bool) (hp : p = in1 lo hi x) (hg : g = w.heap.size) : Calls Tryz.prog 25 #[.int .i64 lo, .int .i64 hi, .slice (some ⟨g, 0, none⟩) 1 1] (w.alloc (.cells #[.int .i64 x] 3)) fun e w' => e = .returned (.bool p) ∧ w.alloc (.cells #[.int .i64 x] 3) = w' := hp ▸ in_new1 lo hi x g w hg
theorem in_new2' (lo hi x y : Int) (g : Nat) (w : World) (p : Bool) (hp : p = (in1 lo hi x && in1 lo hi y)) (hg : g = w.heap.size) : Calls Tryz.prog 25 #[.int .i64 lo, .int .i64 hi, .slice (some ⟨g, 0, none⟩) 2 2] (w.alloc (.cells #[.int .i64 x, .int .i64 y] 3)) fun e w' => e = .returned (.bool p) ∧ w.alloc (.cells #[.int .i64 x, .int .i64 y] 3) = w' := hp ▸ in_new2 lo hi x y g w hg
theorem level_new1' (x : Int) (g : Nat) (w : World) (p : Bool) (hp : p = in1 0 3 x) (hg : g = w.heap.size) : Calls Tryz.prog 28 #[.slice (some ⟨g, 0, none⟩) 1 1] (w.alloc (.cells #[.int .i64 x] 3)) fun e w' => e = .returned (.bool p) ∧ w.alloc (.cells #[.int .i64 x] 3) = w' := hp ▸ level_new1 x g w hg
theorem level_new2' (x y : Int) (g : Nat) (w : World) (p : Bool) (hp : p = (in1 0 3 x && in1 0 3 y)) (hg : g = w.heap.size) : Calls Tryz.prog 28 #[.slice (some ⟨g, 0, none⟩) 2 2] (w.alloc (.cells #[.int .i64 x, .int .i64 y] 3)) fun e w' => e = .returned (.bool p) ∧ w.alloc (.cells #[.int .i64 x, .int .i64 y] 3) = w' := hp ▸ level_new2 x y g w hg
theorem in_new3' (lo hi x y z : Int) (g : Nat) (w : World) (p : Bool) (hp : p = (in1 lo hi x && (in1 lo hi y && in1 lo hi z))) (hg : g = w.heap.size) : Calls Tryz.prog 25 #[.int .i64 lo, .int .i64 hi, .slice (some ⟨g, 0, none⟩) 3 3] (w.alloc (.cells #[.int .i64 x, .int .i64 y, .int .i64 z] 3)) fun e w' => e = .returned (.bool p) ∧ w.alloc (.cells #[.int .i64 x, .int .i64 y, .int .i64 z] 3) = w' := by
 subst hg
 have := in_any lo hi [x, y, z] (some ⟨w.heap.size, 0, none⟩) 3 _ (is_new w [x, y, z]) (by unfold maxLen; simp)
 have e : inL lo hi [x, y, z] = p := by rw [hp]; simp [inL]
 rw [e] at this
 exact this
theorem within_new1' (n x y : Int) (g : Nat) (w : World) (p : Bool) (hp : p = nearV n ⟨x, y⟩) (hg : g = w.heap.size) (h0 : 0 ≤ n) (h1 : n ≤ 1073741824) : Calls Tryz.prog 26 #[.int .i64 n, .slice (some ⟨g, 0, none⟩) 1 1] (w.alloc (.cells #[.int .i64 x, .int .i64 y] 23)) fun e w' => e = .returned (.bool p) ∧ Below (w.heap.size + 1) (w.alloc (.cells #[.int .i64 x, .int .i64 y] 23)) w' := hp ▸ within_new1 n x y g w hg h0 h1
theorem at_new1' (a b : Int) (g : Nat) (w : World) (p : Bool) (hp : p = nearV 1048576 ⟨a, b⟩) (hg : g = w.heap.size) : Calls Tryz.prog 29 #[.slice (some ⟨g, 0, none⟩) 1 1] (w.alloc (.cells #[.int .i64 a, .int .i64 b] 23)) fun e w' => e = .returned (.bool p) ∧ Below (w.heap.size + 1) (w.alloc (.cells #[.int .i64 a, .int .i64 b] 23)) w' := hp ▸ at_new1 a b g w hg
theorem at_new3' (a b c d x y : Int) (g : Nat) (w : World) (p : Bool) (hp : p = (nearV 1048576 ⟨a, b⟩ && (nearV 1048576 ⟨c, d⟩ && nearV 1048576 ⟨x, y⟩))) (hg : g = w.heap.size) : Calls Tryz.prog 29 #[.slice (some ⟨g, 0, none⟩) 3 3] (w.alloc (.cells #[.int .i64 a, .int .i64 b, .int .i64 c, .int .i64 d, .int .i64 x, .int .i64 y] 23)) fun e w' => e = .returned (.bool p) ∧ Below (w.heap.size + 1) (w.alloc (.cells #[.int .i64 a, .int .i64 b, .int .i64 c, .int .i64 d, .int .i64 x, .int .i64 y] 23)) w' := hp ▸ at_new3 a b c d x y g w hg
theorem at_new2' (a b c d : Int) (g : Nat) (w : World) (p : Bool) (hp : p = (nearV 1048576 ⟨a, b⟩ && nearV 1048576 ⟨c, d⟩)) (hg : g = w.heap.size) : Calls Tryz.prog 29 #[.slice (some ⟨g, 0, none⟩) 2 2] (w.alloc (.cells #[.int .i64 a, .int .i64 b, .int .i64 c, .int .i64 d] 23)) fun e w' => e = .returned (.bool p) ∧ Below (w.heap.size + 1) (w.alloc (.cells #[.int .i64 a, .int .i64 b, .int .i64 c, .int .i64 d] 23)) w' := hp ▸ at_new2 a b c d g w hg
theorem bounce_any' (x y : Int) (w : World) (p : Bool) (hp : p = (in1 0 15 x && in1 0 15 y)) : Calls Tryz.prog 30 #[.int .i64 x, .int .i64 y] w fun e w' => e = .returned (.bool p) ∧ Below w.heap.size w w' := hp ▸ bounce_any x y w
theorem ports_any' (x y : Int) (w : World) (p : Bool) (hp : p = (in1 (-1) 31 x && in1 (-1) 63 y)) : Calls Tryz.prog 31 #[.int .i64 x, .int .i64 y] w fun e w' => e = .returned (.bool p) ∧ Below w.heap.size w w' := hp ▸ ports_any x y w
def LookAny (B cb mb n : Nat) (R : Int × List ByteArray) (w : World) (ε : Ending) (w' : World) : Prop := ε = .returned (.tuple #[]) ∧ Below B w w' ∧ ∃ m, m ≤ n + 1 ∧ CkAt w' cb mb m R.1 R.2
theorem look_any (w : World) (cb mb n B : Nat) (e : Int) (L : List ByteArray) (nm : ByteArray) (f s : Bool) (h : CkAt w cb mb n e L) (hm : nm.size ≤ maxLen) (hn : n < maxLen) (hB : B ≤ cb) (hBm : B ≤ mb) :
  Calls Tryz.prog 27 #[.pointer (some ⟨cb, 0, none⟩), .string nm, .bool f, .bool s] w (LookAny B cb mb n (lookR (e, L) nm f s) w) := by
 by_cases he : e = 0
 · subst he
   refine (look_new w cb mb n B L nm f s h hm hn hB hBm).mono fun ε w' h => ⟨h.1, h.2.1, n + 1, Nat.le_refl _, h.2.2⟩
 · have hR : lookR (e, L) nm f s = (e, L) := by unfold lookR; rw [if_pos he]
   rw [hR]
   refine (look_same w cb mb n B e L nm f s h he).mono fun ε w' h' => ?_
   obtain ⟨h1, rfl⟩ := h'
   exact ⟨h1, Below.refl _ _, n, Nat.le_succ n, h⟩
def blk? (n : Nat) : Code → Option Code
  | .seq a b => match blk? n a with
    | some c => some c
    | none => blk? n b
  | .cond _ a b => match blk? n a with
    | some c => some c
    | none => blk? n b
  | .block k b => if k = n then some (.block k b) else blk? n b
  | .loop b => blk? n b
  | .scope b => blk? n b
  | _ => none
def blkOf (n : Nat) (f : Func) : Code := match f.body with
  | some c => (match blk? n c with
    | some x => x
    | none => .skip)
  | none => .skip
theorem pin_eqT {c : Code} {P : Program} {Q : Exit → Act → World → Prop} {a : Act} {w : World} (h : ∀ w', w' = w → c.wp P Q a w') : c.wp P Q a w := h w rfl
def AtEnd (R : Act → World → Prop) : Exit → Act → World → Prop
  | .normal, a, w => R a w
  | _, _, _ => False
theorem wp_of_end {P : Program} {c : Code} {R : Act → World → Prop} {Q : Exit → Act → World → Prop} {a : Act} {w : World} (h : c.wp P (AtEnd R) a w) (hr : ∀ a' w', R a' w' → Q .normal a' w') : c.wp P Q a w :=
 wp_mono h fun e a' w' he => by
  cases e with
  | normal => exact hr a' w' he
  | exit id => exact he.elim
  | goto l => exact he.elim
  | ret => exact he.elim
  | panic ch => exact he.elim
  | outgrown => exact he.elim
def getL : List Value → Nat → Value
  | [], _ => undef
  | a :: _, 0 => a
  | _ :: l, i + 1 => getL l i
theorem getL_eq : ∀ (l : List Value) (t : Nat), (List.toArray l).getD t undef = getL l t
 | [], t => by simp [getL]
 | a :: l, 0 => rfl
 | a :: l, t + 1 => by
  have := getL_eq l t
  simp only [Array.getD_eq_getD_getElem?, List.getElem?_toArray, List.getElem?_cons_succ] at this ⊢
  exact this
theorem evalL (l : List Value) (d : List Deferred) (t : Nat) : Act.eval ⟨List.toArray l, d⟩ (.tmp t) = getL l t := getL_eq l t
theorem getL0 (a : Value) (l : List Value) : getL (a :: l) 0 = a := rfl
theorem getL1 (a0 : Value) (l : List Value) (i : Nat) : getL (a0 :: l) (i + 1) = getL l i := rfl
theorem getL8 (a0 a1 a2 a3 a4 a5 a6 a7 : Value) (l : List Value) (i : Nat) : getL (a0 :: a1 :: a2 :: a3 :: a4 :: a5 :: a6 :: a7 :: l) (i + 8) = getL l i := Eq.trans (getL1 a0 _ (i + 7)) (Eq.trans (getL1 a1 _ (i + 6)) (Eq.trans (getL1 a2 _ (i + 5)) (Eq.trans (getL1 a3 _ (i + 4)) (Eq.trans (getL1 a4 _ (i + 3)) (Eq.trans (getL1 a5 _ (i + 2)) (Eq.trans (getL1 a6 _ (i + 1)) (getL1 a7 _ (i + 0))))))))
theorem setL8 {α : Type} (a0 a1 a2 a3 a4 a5 a6 a7 v : α) (l : List α) (i : Nat) : (a0 :: a1 :: a2 :: a3 :: a4 :: a5 :: a6 :: a7 :: l).set (i + 8) v = a0 :: a1 :: a2 :: a3 :: a4 :: a5 :: a6 :: a7 :: l.set i v := rfl
theorem getL64 (a0 a1 a2 a3 a4 a5 a6 a7 a8 a9 a10 a11 a12 a13 a14 a15 a16 a17 a18 a19 a20 a21 a22 a23 a24 a25 a26 a27 a28 a29 a30 a31 a32 a33 a34 a35 a36 a37 a38 a39 a40 a41 a42 a43 a44 a45 a46 a47 a48 a49 a50 a51 a52 a53 a54 a55 a56 a57 a58 a59 a60 a61 a62 a63 : Value) (l : List Value) (i : Nat) : getL (a0 :: a1 :: a2 :: a3 :: a4 :: a5 :: a6 :: a7 :: a8 :: a9 :: a10 :: a11 :: a12 :: a13 :: a14 :: a15 :: a16 :: a17 :: a18 :: a19 :: a20 :: a21 :: a22 :: a23 :: a24 :: a25 :: a26 :: a27 :: a28 :: a29 :: a30 :: a31 :: a32 :: a33 :: a34 :: a35 :: a36 :: a37 :: a38 :: a39 :: a40 :: a41 :: a42 :: a43 :: a44 :: a45 :: a46 :: a47 :: a48 :: a49 :: a50 :: a51 :: a52 :: a53 :: a54 :: a55 :: a56 :: a57 :: a58 :: a59 :: a60 :: a61 :: a62 :: a63 :: l) (i + 64) = getL l i := Eq.trans (getL8 a0 a1 a2 a3 a4 a5 a6 a7 _ (i + 56)) (Eq.trans (getL8 a8 a9 a10 a11 a12 a13 a14 a15 _ (i + 48)) (Eq.trans (getL8 a16 a17 a18 a19 a20 a21 a22 a23 _ (i + 40)) (Eq.trans (getL8 a24 a25 a26 a27 a28 a29 a30 a31 _ (i + 32)) (Eq.trans (getL8 a32 a33 a34 a35 a36 a37 a38 a39 _ (i + 24)) (Eq.trans (getL8 a40 a41 a42 a43 a44 a45 a46 a47 _ (i + 16)) (Eq.trans (getL8 a48 a49 a50 a51 a52 a53 a54 a55 _ (i + 8)) (getL8 a56 a57 a58 a59 a60 a61 a62 a63 _ (i + 0))))))))
theorem setL64 {α : Type} (a0 a1 a2 a3 a4 a5 a6 a7 a8 a9 a10 a11 a12 a13 a14 a15 a16 a17 a18 a19 a20 a21 a22 a23 a24 a25 a26 a27 a28 a29 a30 a31 a32 a33 a34 a35 a36 a37 a38 a39 a40 a41 a42 a43 a44 a45 a46 a47 a48 a49 a50 a51 a52 a53 a54 a55 a56 a57 a58 a59 a60 a61 a62 a63 v : α) (l : List α) (i : Nat) : (a0 :: a1 :: a2 :: a3 :: a4 :: a5 :: a6 :: a7 :: a8 :: a9 :: a10 :: a11 :: a12 :: a13 :: a14 :: a15 :: a16 :: a17 :: a18 :: a19 :: a20 :: a21 :: a22 :: a23 :: a24 :: a25 :: a26 :: a27 :: a28 :: a29 :: a30 :: a31 :: a32 :: a33 :: a34 :: a35 :: a36 :: a37 :: a38 :: a39 :: a40 :: a41 :: a42 :: a43 :: a44 :: a45 :: a46 :: a47 :: a48 :: a49 :: a50 :: a51 :: a52 :: a53 :: a54 :: a55 :: a56 :: a57 :: a58 :: a59 :: a60 :: a61 :: a62 :: a63 :: l).set (i + 64) v = a0 :: a1 :: a2 :: a3 :: a4 :: a5 :: a6 :: a7 :: a8 :: a9 :: a10 :: a11 :: a12 :: a13 :: a14 :: a15 :: a16 :: a17 :: a18 :: a19 :: a20 :: a21 :: a22 :: a23 :: a24 :: a25 :: a26 :: a27 :: a28 :: a29 :: a30 :: a31 :: a32 :: a33 :: a34 :: a35 :: a36 :: a37 :: a38 :: a39 :: a40 :: a41 :: a42 :: a43 :: a44 :: a45 :: a46 :: a47 :: a48 :: a49 :: a50 :: a51 :: a52 :: a53 :: a54 :: a55 :: a56 :: a57 :: a58 :: a59 :: a60 :: a61 :: a62 :: a63 :: l.set i v := rfl
theorem range_tb {b : Nat} {cs : List Value} {W : World} (h : BoxAt W b cs) : W.rangeAt b 0 cs := fun j v hj => by rw [Nat.zero_add]; exact h.c j v hj
theorem load_at_tb (b : Nat) (t : Tb) (a : TbA) (W : World) (h : BoxAt W b (t.cells a)) :
  (Instr.loadAt 36 (.pointer (some ⟨b, 0, none⟩))).run Tryz.prog W = .ok (t.v a) W :=
 run_loadAt_mid W b 0 36 (t.cells a) _ (range_tb h) Tryz.underlying36 rfl (by kernel_rfl)
theorem loadv_tb (b : Nat) (t : Tb) (a : TbA) (W : World) (h : BoxAt W b (t.cells a)) :
  (loadVar 36 ⟨b, 0, none⟩).run Tryz.prog W = .ok (t.v a) W :=
 run_loadVar_mid W b 0 36 (t.cells a) _ (range_tb h) Tryz.underlying36 rfl (by kernel_rfl)
theorem load_tb (ev : Operand → Value) (o : Oper) (s : Nat) (ho : o.op = .load 36 (.tmp s)) (b : Nat) (hv : ev (.tmp s) = .pointer (some ⟨b, 0, none⟩)) (t : Tb) (a : TbA) (W : World) (h : BoxAt W b (t.cells a)) :
  (execOp ev o).run Tryz.prog W = .ok (.value (t.v a)) W := by
 unfold execOp
 rw [ho]
 simp only [hv, Sem.run_bind, load_at_tb b t a W h, Result.andThen_ok, Sem.run_map, Sem.run_pure]
theorem store_at_tb (b : Nat) (cs : List Value) (t : Tb) (a : TbA) (W : World) (h : BoxAt W b cs) (hl : cs.length = 18) :
  (Instr.storeAt 36 (.pointer (some ⟨b, 0, none⟩)) (t.v a)).run Tryz.prog W = .ok () (W.setCells b 0 (t.cells a)) :=
 run_storeAt_mid W b 0 36 (t.cells a).toArray (fun j hj => ⟨(range_tb h).isSome j (by rw [hl]; simpa [Tb.cells] using hj), h.fz _⟩) (by kernel_rfl) (all_oneCell_toArray (fun v hv => by
  simp only [Tb.cells, List.mem_cons, List.not_mem_nil, or_false] at hv
  rcases hv with rfl | rfl | rfl | rfl | rfl | rfl | rfl | rfl | rfl | rfl | rfl | rfl | rfl | rfl | rfl | rfl | rfl | rfl <;> rfl))
theorem size_setCells (b : Nat) : ∀ (vs : List Value) (o : Nat) (w : World), (w.setCells b o vs).heap.size = w.heap.size
 | [], _, _ => rfl
 | v :: r, o, w => by rw [World.setCells, size_setCells b r]; simp
theorem stored_tb (b : Nat) (cs : List Value) (t : Tb) (a : TbA) (W : World) (h : BoxAt W b cs) (hl : cs.length = 18) : BoxAt (W.setCells b 0 (t.cells a)) b (t.cells a) :=
 ⟨fun j v hj => by
  have := World.rangeAt_setCells_same W b 0 (t.cells a) (fun j hj => ⟨(range_tb h).isSome j (by rw [hl]; simpa [Tb.cells] using hj), h.fz _⟩) j v hj
  rwa [Nat.zero_add] at this, fun o => by rw [World.frozen?_setCells]; exact h.fz o, by rw [size_setCells]; exact h.lt⟩
theorem below_setCells {B b : Nat} (hb : B ≤ b) : ∀ (vs : List Value) (o : Nat) {a w : World}, Below B a w → Below B a (w.setCells b o vs)
 | [], _, _, _, h => h
 | v :: r, o, a, w, h => by rw [World.setCells]; exact below_setCells hb r (o + 1) (h.setCell hb v)
theorem heap_setCells {b k : Nat} (hk : k ≠ b) : ∀ (vs : List Value) (o : Nat) (w : World), (w.setCells b o vs).heap[k]? = w.heap[k]?
 | [], _, _ => rfl
 | v :: r, o, w => by rw [World.setCells, heap_setCells hk r]; exact Below.heap_setCell _ _ _ _ hk
theorem BoxAt.low_cells {W : World} {b q o : Nat} {cs vs : List Value} (h : BoxAt W b cs) (hn : b ≠ q) : BoxAt (W.setCells q o vs) b cs := h.block (by rw [size_setCells]; exact Nat.le_refl _) (heap_setCells hn vs o W)
theorem wpList_store_tb {ops : Array Oper} {rest : List Oper} {o : Oper} {A : Act} {w : World} {Q : Exit → Act → World → Prop} (hgd : o.guard = none) (x y : Operand) (ho : o.op = .store 36 x y) (b : Nat) (cs : List Value) (hx : A.eval x = .pointer (some ⟨b, 0, none⟩)) (t : Tb) (a : TbA) (hy : A.eval y = t.v a) (h : BoxAt w b cs) (hl : cs.length = 18)
  (hk : wpList Tryz.prog ops Q rest (A.put o.dst undef) (w.setCells b 0 (t.cells a))) : wpList Tryz.prog ops Q (o :: rest) A w := by
 refine wpList_plain hgd fun K hK => ?_
 unfold Oper.wp execOp
 simp only [ho, hx, hy, Sem.run_bind, store_at_tb b cs t a w h hl, Result.andThen_ok, Sem.run_map, Sem.run_pure]
 exact hK _ _ hk
theorem upon_store_tb {o : Oper} {A : Act} {w : World} {N : Act → World → Prop} {Q : Exit → Act → World → Prop} (x y : Operand) (ho : o.op = .store 36 x y) (b : Nat) (cs : List Value) (hx : A.eval x = .pointer (some ⟨b, 0, none⟩)) (t : Tb) (a : TbA) (hy : A.eval y = t.v a) (h : BoxAt w b cs) (hl : cs.length = 18)
  (hk : N (A.put o.dst undef) (w.setCells b 0 (t.cells a))) : Oper.upon Tryz.prog o A N Q ((execOp A.eval o).run Tryz.prog w) := by
 unfold execOp
 simp only [ho, hx, hy, Sem.run_bind, store_at_tb b cs t a w h hl, Result.andThen_ok, Sem.run_map, Sem.run_pure]
 exact hk
end Go.Proofs.YtbpcjpiaimdpnaaGreatDoor
namespace Go.Proofs.YtbpcjpiaimdpnaaGreatDoor
open Go
structure KV where
  key : ByteArray
  vals : List Int
  at_ : Int
structure IV where
  word : ByteArray
  name : ByteArray
  keys : List KV
  at_ : Int
def tTable : ByteArray := ⟨#[116, 97, 98, 108, 101]⟩
def txtTab : List (ByteArray × ByteArray) := [
  (⟨#[116, 97, 98, 108, 101]⟩, ⟨#[114, 97, 100, 105, 117, 115, 32, 49, 32, 98, 97, 108, 108, 115, 32, 49, 32, 103, 114, 97, 118, 105, 116, 121, 32, 50, 32, 100, 114, 97, 103, 32, 50, 32, 114, 101, 115, 116, 32, 49, 32, 116, 114, 111, 117, 103, 104, 32, 49]⟩),
  (⟨#[119, 97, 108, 108]⟩, ⟨#[108, 101, 118, 101, 108, 32, 49, 32, 102, 114, 111, 109, 32, 50, 32, 116, 111, 32, 50, 32, 114, 101, 115, 116, 32, 49, 32, 103, 114, 105, 112, 32, 49, 32, 107, 105, 99, 107, 32, 49, 32, 109, 105, 110, 32, 49, 32, 99, 111, 105, 108, 32, 49, 32, 115, 119, 105, 116, 99, 104, 32, 49]⟩),
  (⟨#[103, 97, 116, 101]⟩, ⟨#[108, 101, 118, 101, 108, 32, 49, 32, 102, 114, 111, 109, 32, 50, 32, 116, 111, 32, 50, 32, 114, 101, 115, 116, 32, 49, 32, 103, 114, 105, 112, 32, 49, 32, 107, 105, 99, 107, 32, 49, 32, 109, 105, 110, 32, 49, 32, 99, 111, 105, 108, 32, 49, 32, 115, 119, 105, 116, 99, 104, 32, 49]⟩),
  (⟨#[116, 97, 114, 103, 101, 116]⟩, ⟨#[108, 101, 118, 101, 108, 32, 49, 32, 102, 114, 111, 109, 32, 50, 32, 116, 111, 32, 50, 32, 114, 101, 115, 116, 32, 49, 32, 103, 114, 105, 112, 32, 49, 32, 107, 105, 99, 107, 32, 49, 32, 109, 105, 110, 32, 49, 32, 99, 111, 105, 108, 32, 49, 32, 115, 119, 105, 116, 99, 104, 32, 49]⟩),
  (⟨#[115, 108, 105, 110, 103]⟩, ⟨#[108, 101, 118, 101, 108, 32, 49, 32, 102, 114, 111, 109, 32, 50, 32, 116, 111, 32, 50, 32, 114, 101, 115, 116, 32, 49, 32, 103, 114, 105, 112, 32, 49, 32, 107, 105, 99, 107, 32, 49, 32, 109, 105, 110, 32, 49, 32, 99, 111, 105, 108, 32, 49, 32, 115, 119, 105, 116, 99, 104, 32, 49]⟩),
  (⟨#[97, 114, 99]⟩, ⟨#[108, 101, 118, 101, 108, 32, 49, 32, 99, 101, 110, 116, 101, 114, 32, 50, 32, 102, 114, 111, 109, 32, 50, 32, 116, 111, 32, 50, 32, 114, 101, 115, 116, 32, 49, 32, 103, 114, 105, 112, 32, 49, 32, 109, 105, 110, 32, 49, 32, 115, 119, 105, 116, 99, 104, 32, 49]⟩),
  (⟨#[112, 111, 115, 116]⟩, ⟨#[108, 101, 118, 101, 108, 32, 49, 32, 99, 101, 110, 116, 101, 114, 32, 50, 32, 115, 105, 122, 101, 32, 49, 32, 114, 101, 115, 116, 32, 49, 32, 103, 114, 105, 112, 32, 49, 32, 107, 105, 99, 107, 32, 49, 32, 109, 105, 110, 32, 49, 32, 99, 111, 105, 108, 32, 49, 32, 115, 119, 105, 116, 99, 104, 32, 49]⟩),
  (⟨#[102, 108, 105, 112, 112, 101, 114]⟩, ⟨#[108, 101, 118, 101, 108, 32, 49, 32, 99, 101, 110, 116, 101, 114, 32, 50, 32, 108, 101, 110, 103, 116, 104, 32, 49, 32, 109, 105, 114, 114, 111, 114, 32, 48, 32, 114, 97, 110, 103, 101, 32, 50, 32, 117, 112, 32, 49, 32, 100, 111, 119, 110, 32, 49, 32, 109, 97, 120, 32, 49, 32, 114, 101, 115, 116, 32, 49, 32, 103, 114, 105, 112, 32, 49, 32, 99, 111, 105, 108, 32, 49, 32, 115, 119, 105, 116, 99, 104, 32, 49]⟩),
  (⟨#[122, 111, 110, 101]⟩, ⟨#[108, 101, 118, 101, 108, 32, 49, 32, 102, 114, 111, 109, 32, 50, 32, 116, 111, 32, 50, 32, 104, 97, 108, 102, 32, 50, 32, 99, 111, 105, 108, 32, 49]⟩),
  (⟨#[115, 97, 117, 99, 101, 114]⟩, ⟨#[108, 101, 118, 101, 108, 32, 49, 32, 99, 101, 110, 116, 101, 114, 32, 50, 32, 115, 105, 122, 101, 32, 49, 32, 108, 105, 109, 105, 116, 32, 49, 32, 111, 117, 116, 32, 50, 32, 99, 111, 105, 108, 32, 49, 32, 115, 119, 105, 116, 99, 104, 32, 49]⟩),
  (⟨#[108, 97, 110, 101]⟩, ⟨#[108, 101, 118, 101, 108, 32, 49, 32, 99, 101, 110, 116, 101, 114, 32, 50, 32, 115, 105, 122, 101, 32, 49, 32, 115, 119, 105, 116, 99, 104, 32, 49]⟩),
  (⟨#[114, 97, 109, 112]⟩, ⟨#[108, 101, 118, 101, 108, 32, 49, 32, 105, 110, 116, 111, 32, 49, 32, 99, 101, 110, 116, 101, 114, 32, 50, 32, 115, 105, 122, 101, 32, 49, 32, 100, 105, 114, 32, 50]⟩),
  (⟨#[100, 114, 97, 105, 110]⟩, ⟨#[108, 101, 118, 101, 108, 32, 49, 32, 99, 101, 110, 116, 101, 114, 32, 50, 32, 115, 105, 122, 101, 32, 49]⟩),
  (⟨#[108, 97, 117, 110, 99, 104, 101, 114]⟩, ⟨#[108, 101, 118, 101, 108, 32, 49, 32, 99, 101, 110, 116, 101, 114, 32, 50, 32, 111, 117, 116, 32, 50, 32, 99, 111, 105, 108, 32, 49]⟩)]
def keyTab : List (ByteArray × List (ByteArray × Nat)) := [
  (⟨#[116, 97, 98, 108, 101]⟩, [(⟨#[114, 97, 100, 105, 117, 115]⟩, 1), (⟨#[98, 97, 108, 108, 115]⟩, 1), (⟨#[103, 114, 97, 118, 105, 116, 121]⟩, 2), (⟨#[100, 114, 97, 103]⟩, 2), (⟨#[114, 101, 115, 116]⟩, 1), (⟨#[116, 114, 111, 117, 103, 104]⟩, 1)]),
  (⟨#[119, 97, 108, 108]⟩, [(⟨#[108, 101, 118, 101, 108]⟩, 1), (⟨#[102, 114, 111, 109]⟩, 2), (⟨#[116, 111]⟩, 2), (⟨#[114, 101, 115, 116]⟩, 1), (⟨#[103, 114, 105, 112]⟩, 1), (⟨#[107, 105, 99, 107]⟩, 1), (⟨#[109, 105, 110]⟩, 1), (⟨#[99, 111, 105, 108]⟩, 1), (⟨#[115, 119, 105, 116, 99, 104]⟩, 1)]),
  (⟨#[103, 97, 116, 101]⟩, [(⟨#[108, 101, 118, 101, 108]⟩, 1), (⟨#[102, 114, 111, 109]⟩, 2), (⟨#[116, 111]⟩, 2), (⟨#[114, 101, 115, 116]⟩, 1), (⟨#[103, 114, 105, 112]⟩, 1), (⟨#[107, 105, 99, 107]⟩, 1), (⟨#[109, 105, 110]⟩, 1), (⟨#[99, 111, 105, 108]⟩, 1), (⟨#[115, 119, 105, 116, 99, 104]⟩, 1)]),
  (⟨#[116, 97, 114, 103, 101, 116]⟩, [(⟨#[108, 101, 118, 101, 108]⟩, 1), (⟨#[102, 114, 111, 109]⟩, 2), (⟨#[116, 111]⟩, 2), (⟨#[114, 101, 115, 116]⟩, 1), (⟨#[103, 114, 105, 112]⟩, 1), (⟨#[107, 105, 99, 107]⟩, 1), (⟨#[109, 105, 110]⟩, 1), (⟨#[99, 111, 105, 108]⟩, 1), (⟨#[115, 119, 105, 116, 99, 104]⟩, 1)]),
  (⟨#[115, 108, 105, 110, 103]⟩, [(⟨#[108, 101, 118, 101, 108]⟩, 1), (⟨#[102, 114, 111, 109]⟩, 2), (⟨#[116, 111]⟩, 2), (⟨#[114, 101, 115, 116]⟩, 1), (⟨#[103, 114, 105, 112]⟩, 1), (⟨#[107, 105, 99, 107]⟩, 1), (⟨#[109, 105, 110]⟩, 1), (⟨#[99, 111, 105, 108]⟩, 1), (⟨#[115, 119, 105, 116, 99, 104]⟩, 1)]),
  (⟨#[97, 114, 99]⟩, [(⟨#[108, 101, 118, 101, 108]⟩, 1), (⟨#[99, 101, 110, 116, 101, 114]⟩, 2), (⟨#[102, 114, 111, 109]⟩, 2), (⟨#[116, 111]⟩, 2), (⟨#[114, 101, 115, 116]⟩, 1), (⟨#[103, 114, 105, 112]⟩, 1), (⟨#[109, 105, 110]⟩, 1), (⟨#[115, 119, 105, 116, 99, 104]⟩, 1)]),
  (⟨#[112, 111, 115, 116]⟩, [(⟨#[108, 101, 118, 101, 108]⟩, 1), (⟨#[99, 101, 110, 116, 101, 114]⟩, 2), (⟨#[115, 105, 122, 101]⟩, 1), (⟨#[114, 101, 115, 116]⟩, 1), (⟨#[103, 114, 105, 112]⟩, 1), (⟨#[107, 105, 99, 107]⟩, 1), (⟨#[109, 105, 110]⟩, 1), (⟨#[99, 111, 105, 108]⟩, 1), (⟨#[115, 119, 105, 116, 99, 104]⟩, 1)]),
  (⟨#[102, 108, 105, 112, 112, 101, 114]⟩, [(⟨#[108, 101, 118, 101, 108]⟩, 1), (⟨#[99, 101, 110, 116, 101, 114]⟩, 2), (⟨#[108, 101, 110, 103, 116, 104]⟩, 1), (⟨#[109, 105, 114, 114, 111, 114]⟩, 0), (⟨#[114, 97, 110, 103, 101]⟩, 2), (⟨#[117, 112]⟩, 1), (⟨#[100, 111, 119, 110]⟩, 1), (⟨#[109, 97, 120]⟩, 1), (⟨#[114, 101, 115, 116]⟩, 1), (⟨#[103, 114, 105, 112]⟩, 1), (⟨#[99, 111, 105, 108]⟩, 1), (⟨#[115, 119, 105, 116, 99, 104]⟩, 1)]),
  (⟨#[122, 111, 110, 101]⟩, [(⟨#[108, 101, 118, 101, 108]⟩, 1), (⟨#[102, 114, 111, 109]⟩, 2), (⟨#[116, 111]⟩, 2), (⟨#[104, 97, 108, 102]⟩, 2), (⟨#[99, 111, 105, 108]⟩, 1)]),
  (⟨#[115, 97, 117, 99, 101, 114]⟩, [(⟨#[108, 101, 118, 101, 108]⟩, 1), (⟨#[99, 101, 110, 116, 101, 114]⟩, 2), (⟨#[115, 105, 122, 101]⟩, 1), (⟨#[108, 105, 109, 105, 116]⟩, 1), (⟨#[111, 117, 116]⟩, 2), (⟨#[99, 111, 105, 108]⟩, 1), (⟨#[115, 119, 105, 116, 99, 104]⟩, 1)]),
  (⟨#[108, 97, 110, 101]⟩, [(⟨#[108, 101, 118, 101, 108]⟩, 1), (⟨#[99, 101, 110, 116, 101, 114]⟩, 2), (⟨#[115, 105, 122, 101]⟩, 1), (⟨#[115, 119, 105, 116, 99, 104]⟩, 1)]),
  (⟨#[114, 97, 109, 112]⟩, [(⟨#[108, 101, 118, 101, 108]⟩, 1), (⟨#[105, 110, 116, 111]⟩, 1), (⟨#[99, 101, 110, 116, 101, 114]⟩, 2), (⟨#[115, 105, 122, 101]⟩, 1), (⟨#[100, 105, 114]⟩, 2)]),
  (⟨#[100, 114, 97, 105, 110]⟩, [(⟨#[108, 101, 118, 101, 108]⟩, 1), (⟨#[99, 101, 110, 116, 101, 114]⟩, 2), (⟨#[115, 105, 122, 101]⟩, 1)]),
  (⟨#[108, 97, 117, 110, 99, 104, 101, 114]⟩, [(⟨#[108, 101, 118, 101, 108]⟩, 1), (⟨#[99, 101, 110, 116, 101, 114]⟩, 2), (⟨#[111, 117, 116]⟩, 2), (⟨#[99, 111, 105, 108]⟩, 1)])]
def txtOf (s : ByteArray) : ByteArray := match txtTab.find? (fun p => decide (p.1 = s)) with
  | some p => p.2
  | none => ⟨#[]⟩
def ksOf (s : ByteArray) : List (ByteArray × Nat) := match keyTab.find? (fun p => decide (p.1 = s)) with
  | some p => p.2
  | none => []
def isWord (s : ByteArray) : Bool := keyTab.any fun p => decide (p.1 = s)
def arL (l : List (ByteArray × Nat)) (key : ByteArray) : Int := match l.find? (fun p => decide (p.1 = key)) with
  | some p => p.2
  | none => -1
def arR (word key : ByteArray) : Int := arL (ksOf word) key
inductive PR (α : Type) where
  | err (e : Int) (at_ : Nat)
  | ok (x : α) (rest : List WV)
def atR (l : List WV) (e : Nat) : Nat := match l with
  | [] => e
  | x :: _ => x.at_
def isK (l : List WV) (k : Int) : Bool := match l with
  | [] => false
  | x :: _ => decide (x.kind = k)
def numsF (e : Nat) : Nat → List Int → List WV → PR (List Int)
  | 0, acc, l => .ok acc l
  | _ + 1, _, [] => .err 4 e
  | n + 1, acc, x :: l => if x.kind = 2 then numsF e n (acc ++ [x.num]) l else .err 4 x.at_
def hasK (l : List KV) (k : ByteArray) : Bool := l.any fun p => decide (p.key = k)
def keysF (e : Nat) (word : ByteArray) : Nat → List KV → List WV → PR (List KV)
  | 0, acc, l => .ok acc l
  | _ + 1, _, [] => .err 4 e
  | f + 1, acc, x :: l =>
    if x.kind = 3 then .ok acc l
    else if x.kind ≠ 1 then .err 4 x.at_
    else if arR word x.text < 0 then .err 4 x.at_
    else if hasK acc x.text = true then .err 7 x.at_
    else match numsF e (arR word x.text).toNat [] l with
      | .err a b => .err a b
      | .ok vs l' => keysF e word f (acc ++ [⟨x.text, vs, x.at_⟩]) l'
def restF (e : Nat) (word name : ByteArray) (a : Nat) (l : List WV) : PR IV := match keysF e word (l.length + 1) [] l with
  | .err c b => .err c b
  | .ok ks l' => .ok ⟨word, name, ks, a⟩ l'
def itemF (e : Nat) : List WV → PR IV
  | [] => .err 4 e
  | x :: l =>
    if x.kind ≠ 1 then .err 4 x.at_
    else if isWord x.text = false then .err 4 x.at_
    else if x.text = tTable then restF e x.text ⟨#[]⟩ x.at_ l
    else match l with
      | [] => .err 4 e
      | y :: l' => if y.kind ≠ 1 then .err 4 y.at_ else restF e x.text y.text x.at_ l'
def parseF (e : Nat) : Nat → List IV → List WV → List IV × Int × Nat
  | 0, acc, _ => (acc, 0, 0)
  | _ + 1, acc, [] => (acc, 0, 0)
  | f + 1, acc, x :: l =>
    if acc.length = 400 then ([], 9, x.at_)
    else match itemF e (x :: l) with
      | .err a b => ([], a, b)
      | .ok y l' => parseF e f (acc ++ [y]) l'
def parseR (s : ByteArray) : List IV × Int × Nat :=
  if (scanR s).2.1 ≠ 0 then ([], (scanR s).2.1, (scanR s).2.2) else parseF s.size ((scanR s).1.length + 1) [] (scanR s).1
def getR (l : List KV) (k : ByteArray) : Option (List Int) := (l.find? fun p => decide (p.key = k)).map (·.vals)
theorem hasK_get {l : List KV} {k : ByteArray} : hasK l k = (getR l k).isSome := by
 unfold hasK getR
 rw [Option.isSome_map]
 induction l with
 | nil => rfl
 | cons a l ih =>
  simp only [List.any_cons, List.find?_cons]
  cases h : decide (a.key = k)
  · simpa using ih
  · rfl
theorem numsF_len {e : Nat} : ∀ (n : Nat) (acc : List Int) (l : List WV) {x : List Int} {r : List WV}, numsF e n acc l = .ok x r → r.length + n = l.length ∧ x.length = acc.length + n
 | 0, acc, l, x, r, h => by simp only [numsF, PR.ok.injEq] at h; obtain ⟨rfl, rfl⟩ := h; simp
 | n + 1, acc, [], x, r, h => by simp [numsF] at h
 | n + 1, acc, y :: l, x, r, h => by
  simp only [numsF] at h
  split at h
  · have := numsF_len n _ l h
    simp only [List.length_append, List.length_cons, List.length_nil] at *
    omega
  · cases h
theorem keysF_len {e : Nat} {word : ByteArray} : ∀ (f : Nat) (acc : List KV) (l : List WV) {x : List KV} {r : List WV}, l.length < f → keysF e word f acc l = .ok x r → r.length < l.length ∧ x.length ≤ acc.length + l.length
 | 0, acc, l, x, r, hf, h => by omega
 | f + 1, acc, [], x, r, hf, h => by simp [keysF] at h
 | f + 1, acc, y :: l, x, r, hf, h => by
  simp only [keysF] at h
  split at h
  · simp only [PR.ok.injEq] at h; obtain ⟨rfl, rfl⟩ := h; simp
  · split at h
    · cases h
    · split at h
      · cases h
      · split at h
        · cases h
        · cases hn : numsF e (arR word y.text).toNat [] l with
          | err a b => simp only [hn] at h; cases h
          | ok vs l' =>
           simp only [hn] at h
           have h1 := numsF_len _ _ _ hn
           simp only [List.length_cons] at hf
           have h2 := keysF_len f _ l' (by omega) h
           simp only [List.length_append, List.length_cons, List.length_nil] at *
           omega
theorem restF_len {e a : Nat} {word name : ByteArray} {l : List WV} {x : IV} {r : List WV} (h : restF e word name a l = .ok x r) : r.length < l.length ∧ x.keys.length ≤ l.length := by
 unfold restF at h
 cases hk : keysF e word (l.length + 1) [] l with
 | err c b => simp only [hk] at h; cases h
 | ok ks l' =>
  simp only [hk, PR.ok.injEq] at h
  obtain ⟨rfl, rfl⟩ := h
  have := keysF_len _ _ _ (by omega) hk
  simpa using this
theorem itemF_len {e : Nat} {l : List WV} {x : IV} {r : List WV} (h : itemF e l = .ok x r) : r.length < l.length ∧ x.keys.length ≤ l.length := by
 cases l with
 | nil => cases h
 | cons y l =>
  simp only [itemF] at h
  split at h
  · cases h
  · split at h
    · cases h
    · split at h
      · have := restF_len h; simp only [List.length_cons]; omega
      · cases l with
        | nil => cases h
        | cons z l =>
         simp only at h
         split at h
         · cases h
         · have := restF_len h; simp only [List.length_cons]; omega
end Go.Proofs.YtbpcjpiaimdpnaaGreatDoor
namespace Go.Proofs.YtbpcjpiaimdpnaaGreatDoor
open Go.RowKit
set_option linter.unusedVariables false
attribute [local go_sem] cOf_get
def cellsOfW (x : WV) : List Value := [.int .i64 x.kind, .string x.text, .int .i64 x.num, .int .i64 x.at_]
def flatW (l : List WV) : List Value := l.flatMap cellsOfW
theorem flatW_snoc (l : List WV) (x : WV) : flatW (l ++ [x]) = flatW l ++ cellsOfW x := by simp [flatW]
theorem own_below {w w1 : World} {base B : Nat} {e : TypeId} {size n : Nat} {v : Value} {xs : List Value} (h : w.ownsRow base e size v n xs) (hb : Below B w w1) (hB : w.heap.size ≤ B) : w1.ownsRow base e size v n xs := by
 obtain ⟨h1, h2⟩ := h
 refine ⟨h1, ?_⟩
 rcases h2 with h2 | ⟨g, cap, cur, hv, hg, hh, r⟩
 · exact .inl h2
 · have hlt : g < w.heap.size := by
    rcases Nat.lt_or_ge g w.heap.size with h | h
    · exact h
    · rw [Array.getElem?_eq_none h] at hh; cases hh
   exact .inr ⟨g, cap, cur, hv, hg, by rw [hb.block g (by omega)]; exact hh, r⟩
theorem cells_new {W : World} (cs : List Value) (E : TypeId) (b : Nat) (hb : b = W.heap.size) : ∀ (j : Nat) (u : Value), cs[j]? = some u → (W.alloc (.cells cs.toArray E)).cell? ((⟨b, 0, none⟩ : Addr).add j) = some u := by
 intro j u hu
 subst hb
 have : (⟨W.heap.size, 0, none⟩ : Addr).add j = ⟨W.heap.size, j, none⟩ := by unfold Addr.add; split <;> simp_all
 rw [this, World.cell?_alloc_new]
 simpa using hu
theorem own_fresh {w : World} {base : Nat} {e : TypeId} {size n : Nat} {v : Value} {xs : List Value} (h : w.ownsRow base e size v n xs) : ∀ k, v.ownBlock = some k → base ≤ k := fun k hk => (h.lt k hk).1
theorem wordInfo : (Tryz.prog.info? 239).map (fun i => (i.zero, i.size, i.bytes)) = some (some (.agg #[.int .i64 0, .string ⟨#[]⟩, .int .i64 0, .int .i64 0]), 4, 40) := by kernel_rfl
theorem scan_len (s : ByteArray) : ∀ f i acc, i ≤ s.size → acc.length ≤ i → (scanF s f i acc).1.length ≤ s.size
 | 0, i, acc, hi, h => by simp only [scanF]; omega
 | f + 1, i, acc, hi, h => by
  unfold scanF
  by_cases hlt : i < s.size
  · rw [if_pos hlt]
    by_cases h1 : cOf s i = 32 ∨ cOf s i = 9 ∨ cOf s i = 10
    · rw [if_pos h1]; exact scan_len s f _ _ (by omega) (by omega)
    · rw [if_neg h1]
      by_cases h2 : cOf s i = 35
      · rw [if_pos h2]; exact scan_len s f _ _ (run_le _ _ (by omega)) (by have := run_ge notLf s i; omega)
      · rw [if_neg h2]
        cases hw : wordR s i with
        | err e a => simp
        | ok k t n nx =>
         have := wordR_ok hlt hw
         exact scan_len s f _ _ this.2.1 (by simp; omega)
  · rw [if_neg hlt]; simp only; omega
theorem scanR_len (s : ByteArray) : (scanR s).1.length ≤ 20000 := by
 unfold scanR
 split
 · simp
 · have := scan_len s (s.size + 1) 0 [] (by omega) (by simp); omega
def WordsOut (E : TypeId) (R : List WV × Int × Nat) (B : Nat) (w : World) (e : Ending) (w' : World) : Prop :=
  Below B w w' ∧ ∃ v, e = .returned (.tuple #[v, .int .i64 R.2.1, .int .i64 R.2.2]) ∧ w'.ownsRow B E 4 v R.1.length (flatW R.1)
set_option maxRecDepth 100000 in
set_option maxHeartbeats 1000000 in
theorem words_any (s : ByteArray) (w : World) (hm : s.size ≤ maxLen) :
  Calls Tryz.prog 90 #[.string s] w (WordsOut 239 (scanR s) w.heap.size w) := by
 unfold maxLen at hm
 by_cases hs : 20000 < s.size
 · have HR : Hid (scanR s = ([], 2, 0)) := by unfold scanR; rw [if_pos hs]; rfl
   go_enter Tryz.func90, Tryz.ntmps90; (try simp only [List.append_eq, List.cons_append, List.nil_append])
   go_wp2_with fail
   go_ret3
   refine ⟨Below.refl _ _, .slice none 0 0, ?_, ?_⟩
   · rw [HR.out]; rfl
   · rw [HR.out]; exact World.ownsRow_nil _ _ _ _
 · obtain ⟨i0, hi0, hy0, hy1, hy2⟩ := info_parts wordInfo
   obtain ⟨R, hR⟩ : ∃ R, R = scanR s := ⟨_, rfl⟩
   have HF : Hid (scanF s (s.size + 1) 0 [] = R) := by rw [hR]; unfold scanR; rw [if_neg hs]; rfl
   have hRl : R.1.length ≤ 20000 := by rw [hR]; exact scanR_len s
   rw [← hR]
   clear hR
   have hs' : s.size ≤ 20000 := by omega
   clear hs
   go_enter Tryz.func90, Tryz.ntmps90; (try simp only [List.append_eq, List.cons_append, List.nil_append])
   go_wp2_with fail
   go_loopw [5, 6] (fun v t wr => ∃ (f k : Nat) (acc : List WV), k ≤ s.size ∧ acc.length ≤ k ∧ t = .int .i64 k ∧ wr.ownsRow w.heap.size 239 4 v acc.length (flatW acc) ∧ Below w.heap.size w wr ∧ Hid (scanF s f k acc = R) ∧ s.size - k < f) (fun _ t _ => s.size - (intOf t).toNat)
   case atStart => exact ⟨s.size + 1, 0, [], by omega, Nat.le_refl _, rfl, World.ownsRow_nil _ _ _ _, Below.refl _ _, HF, by omega⟩
   case round =>
    obtain ⟨f, k, acc, hk, hal, rfl, hown, hbel, HF', hf⟩ := hrel
    have hcb := cOf_bd s k
    obtain ⟨hcb1, hcb2⟩ := hcb
    by_cases hlt : k < s.size
    · by_cases h1 : cOf s k = 32 ∨ cOf s k = 9 ∨ cOf s k = 10
      · obtain ⟨f', HF', hf'⟩ := scan_blank HF'.out hlt hf h1
        replace HF' := hQ0 HF'
        clear HF hf
        rcases h1 with h1 | h1 | h1
        · have b1 : (cOf s k == 32) = true := by simp [h1]
          clear h1
          go_wp2_with fail
          go_roundw
          case rel => exact ⟨f', k + 1, acc, by omega, by omega, by go_num, hown, hbel, HF', hf'⟩
          case measure => simp [intOf]; omega
        · have b1 : (cOf s k == 32) = false := by simp [h1]
          have b2 : (cOf s k == 9) = true := by simp [h1]
          clear h1
          go_wp2_with fail
          go_roundw
          case rel => exact ⟨f', k + 1, acc, by omega, by omega, by go_num, hown, hbel, HF', hf'⟩
          case measure => simp [intOf]; omega
        · have b1 : (cOf s k == 32) = false := by simp [h1]
          have b2 : (cOf s k == 9) = false := by simp [h1]
          have b3 : (cOf s k == 10) = true := by simp [h1]
          clear h1
          go_wp2_with fail
          go_roundw
          case rel => exact ⟨f', k + 1, acc, by omega, by omega, by go_num, hown, hbel, HF', hf'⟩
          case measure => simp [intOf]; omega
      · have b1 : (cOf s k == 32) = false := by simp; omega
        have b2 : (cOf s k == 9) = false := by simp; omega
        have b3 : (cOf s k == 10) = false := by simp; omega
        by_cases h2 : cOf s k = 35
        · obtain ⟨f', HF'', hf'⟩ := scan_note HF'.out hlt hf h2
          have b4 : (cOf s k == 35) = true := by simp [h2]
          have b5 : (cOf s k != 10) = true := by simp [h2]
          have hge : k + 1 ≤ run notLf s k := by rw [← run_step hlt (p := notLf) (by simp [notLf, h2])]; exact run_ge _ _ _
          have hle := run_le notLf s (i := k) (by omega)
          obtain ⟨E, hE⟩ : ∃ E, E = run notLf s k := ⟨_, rfl⟩
          rw [← hE] at hge hle hf' HF''
          have HE := hQ0 hE
          replace HF' := hQ0 HF''
          clear hE h2 h1 HF'' hf HF
          go_wp2_with fail
          go_loop [6] (fun t => ∃ j : Nat, k ≤ j ∧ j ≤ s.size ∧ t = .int .i64 j ∧ Hid (run notLf s j = E)) (fun t => s.size - (intOf t).toNat)
          case atStart => exact ⟨k, Nat.le_refl _, by omega, rfl, HE.out.symm⟩
          case round =>
           obtain ⟨j, hj0, hj, rfl, HJ⟩ := hrel
           have hcj := cOf_bd s j
           obtain ⟨hcj1, hcj2⟩ := hcj
           by_cases hltj : j < s.size
           · cases hp : notLf (cOf s j)
             · have hEj : j = E := by rw [← HJ.out]; exact (run_stop (fun h => by rw [hp] at h; exact absurd h.2 (by simp))).symm
               have hbj : (cOf s j != 10) = false := by simpa [notLf] using hp
               clear hp
               subst hEj
               go_wp2_with fail
               go_roundw
               case rel => exact ⟨f', j, acc, by omega, by omega, rfl, hown, hbel, HF', by omega⟩
               case measure => simp [intOf]; omega
             · have hbj : (cOf s j != 10) = true := by simpa [notLf] using hp
               have hst := hQ0 ((run_step hltj hp).trans HJ.out)
               clear hp
               go_wp2_with fail
               go_round
               case rel => exact ⟨j + 1, by omega, by omega, by go_num, hst.out⟩
               case measure => simp [intOf]; omega
           · have hEj : j = E := by rw [← HJ.out]; exact (run_stop (fun h => hltj h.1)).symm
             subst hEj
             go_wp2_with fail
             go_roundw
             case rel => exact ⟨f', j, acc, by omega, by omega, rfl, hown, hbel, HF', by omega⟩
             case measure => simp [intOf]; omega
        · have b4 : (cOf s k == 35) = false := by simp [h2]
          have H1 := hQ0 h1
          have H2 := hQ0 h2
          clear h1 h2 HF
          go_wp2_with fail
          (go_at_call 153; refine (word_any _ _ _ hs' hlt).mono ?_; rintro e w1 ⟨hb1, hc1⟩)
          have hz1 := hb1.size
          have hown1 := own_below hown hb1 (Nat.le_refl _)
          have hbel1 := hbel.trans (hb1.mono hbel.size)
          have hbz := hbel1.size
          clear hown hb1 hbel
          rcases hc1 with ⟨er, pl, hw, rfl⟩ | ⟨kk, tt, nn, nx, hw, rfl⟩
          · have hRe := scan_err HF'.out hlt hf H1.out H2.out hw
            have HRe := hQ0 hRe
            have her : (er != 0) = true := by
             have := wordR_err hw
             simp; omega
            clear hRe hw HF' hf
            go_wp2_with fail
            go_ret3
            refine ⟨?_, .slice none 0 0, ?_, ?_⟩
            · ((with_reducible (repeat (first | exact bR _ _ | apply bS | apply bA | apply bD | refine bT ?_ (by assumption) ?_ | refine bO (by assumption) ?_ ?_))) <;> (first | omega | (simp <;> omega)))
            · rw [HRe.out]; rfl
            · rw [HRe.out]; exact World.ownsRow_nil _ _ _ _
          · have hok := wordR_ok hlt hw
            obtain ⟨f', HF'', hf'⟩ := scan_word HF'.out hlt hf H1.out H2.out hw
            replace HF'' := hQ0 HF''
            have e0 : ((0 : Int) != 0) = false := rfl
            have hts := hQ0 hok.2.2.1
            have htz : tt.size ≤ 20000 := by omega
            obtain ⟨hx1, hx2, -⟩ := hok
            clear hw HF' hf
            go_wp2_with (at_builtin; go_must (refine wpList_append_own _ rfl _ _ 151 rfl w.heap.size 239 i0 _ 4 40 Tryz.underlying151 hi0 hy0 hy1 hy2 rfl (by decide) _ _ _ rfl ((hown1.alloc _).alloc _) ⟨w1.heap.size + 1, 0, none⟩ 1 1 [.int .i64 kk, .string tt, .int .i64 nn, .int .i64 k] rfl rfl ?c1 ?c2 ?c3 ?c4 ?c5 ?_))
            case c1 => exact cells_new _ _ _ (by simp)
            case c2 => intro u hu; simp at hu; rcases hu with rfl | rfl | rfl | rfl <;> rfl
            case c3 => simp [maxLen]; omega
            case c4 => omega
            case c5 => simp; omega
            intro v2 w2 hown2 hg2 _
            have hne : some w1.heap.size ≠ u5.ownBlock := fun e => by have := (hown1.lt _ e.symm).2; omega
            have hblk := hg2.block w1.heap.size (by simp; omega) hne
            have hc8 : w2.cell? ⟨w1.heap.size, 1, none⟩ = some (.string tt) := by rw [World.cell?_of_block hblk]; go_simp
            have hbel2 : Below w.heap.size w w2 := ((hbel1.alloc (by omega) _).alloc (by simp; omega) _).grown hg2 (by simp; omega) (own_fresh hown1)
            clear hblk hne hg2 hown1 hbel1
            go_wp2_with fail
            go_roundw
            case rel => exact ⟨f', nx, acc ++ [⟨kk, tt, nn, k⟩], by omega, by simp; omega, by first | rfl | (congr 1; have := hts.out; omega), by rw [flatW_snoc, List.length_append]; exact hown2, hbel2, HF'', by omega⟩
            case measure => simp [intOf]; have := hts.out; omega
    · have hRe := hQ0 ((scanF_end hlt).symm.trans HF'.out)
      obtain rfl : k = s.size := by omega
      clear HF'
      go_wp2_with fail
      go_ret3
      refine ⟨hbel, u5, ?_, ?_⟩
      · rw [← hRe.out]; rfl
      · rw [← hRe.out]; exact hown
end Go.Proofs.YtbpcjpiaimdpnaaGreatDoor
namespace Go.Proofs.YtbpcjpiaimdpnaaGreatDoor
open Go Go.ChangeShapes Go.WideShapes Go.ChangeAt Go.RowKit
def RowIs (P : Program) (w : World) : Nat → TypeId → List Value → Prop
  | 0, _, _ => False
  | n + 1, t, cs =>
    match P.underlying t with
    | some (.int k) => ∃ z, cs = [.int k z] ∧ (Lit.int k z).wf = true
    | some .bool => ∃ b, cs = [.bool b]
    | some .string => ∃ s : ByteArray, cs = [.string s] ∧ s.size ≤ maxLen
    | some (.struct fs) => cs.length = P.cellsOf t ∧ ∀ f ∈ fs.toList, RowIs P w n f.type ((cs.drop f.offset).take (P.cellsOf f.type))
    | some (.slice e) => cs = [.slice none 0 0] ∨ ∃ (a : Addr) (len cap : Nat), cs = [.slice (some a) len cap] ∧ len ≤ cap ∧ cap ≤ maxLen ∧
        ∀ i, i < len → ∃ row, row.length = P.cellsOf e ∧ (∀ j v, row[j]? = some v → w.cell? (a.add (i * P.cellsOf e + j)) = some v) ∧ RowIs P w n e row
    | _ => True
section
variable {H : Type} {enc : TypeId × Value → H} {P : Program} {w : World}
theorem cells_at {base : Nat} {a : Addr} {n : Nat} {row : List Value} (h : w.cells? base a n = some row) : row.length = n ∧ ∀ j v, row[j]? = some v → w.cell? (a.add j) = some v := by
 unfold World.cells? at h
 split at h
 · have hl := mapM_some_length h
   simp at hl
   refine ⟨hl, fun j v hj => ?_⟩
   have hlt : j < n := by rw [← hl]; exact (List.getElem?_eq_some_iff.1 hj).1
   have := mapM_some_get h j j (by simp [hlt])
   rw [this, hj]
 · cases h
theorem add_add' (a : Addr) (i j : Nat) : (a.add i).add j = a.add (i + j) := by
 unfold Addr.add
 by_cases hi : i = 0 <;> by_cases hj : j = 0 <;> simp [hi, hj, Nat.add_assoc]
theorem rowIs_of_trod {base : Nat} {spare : Nat → Bool} {held : Bool} : ∀ (fuel : Nat) (t : TypeId) (cs : List Value) (x : DataW H × List MemPlace), DataW.trod enc P w base spare held fuel t cs = some x → RowIs P w fuel t cs := by
 intro fuel
 induction fuel with
 | zero => intro t cs x h; simp [DataW.trod] at h
 | succ n ih =>
  intro t cs x h
  cases hu : P.underlying t with
  | none => simp only [RowIs, hu]
  | some d =>
   cases d with
   | bool => obtain ⟨b, hb, _⟩ := DataW.trod_bool hu h; simp only [RowIs, hu]; exact ⟨b, hb⟩
   | int k => obtain ⟨z, hz, _, hw⟩ := DataW.trod_int hu h; simp only [RowIs, hu]; exact ⟨z, hz, hw⟩
   | string => obtain ⟨s, hs, _, hw⟩ := DataW.trod_string hu h; simp only [RowIs, hu]; exact ⟨s, hs, hw⟩
   | struct fs =>
    obtain ⟨xs, m, hm, _, hl, hxl, hf⟩ := DataW.trod_struct hu h
    obtain rfl : m = n := by omega
    simp only [RowIs, hu]
    refine ⟨hl, fun f hfm => ?_⟩
    obtain ⟨i, hi⟩ := List.getElem?_of_mem hfm
    have h1 := hf i f (by simpa using hi)
    have hlt : i < xs.length := by rw [hxl]; have := (List.getElem?_eq_some_iff.1 hi).1; simpa using this
    rw [List.getElem?_eq_getElem hlt] at h1
    exact ih _ _ _ h1
   | slice e =>
    simp only [RowIs, hu]
    rcases DataW.trod_slice hu h with ⟨h0, _⟩ | ⟨a, len, cap, elems, rest, m, hm, hcs, _, _, hlc, hcap, hel, hat, _⟩
    · exact .inl h0
    · obtain rfl : m = n := by omega
      refine .inr ⟨a, len, cap, hcs, hlc, hcap, fun i hi => ?_⟩
      have h1 := hat i hi
      have hlt : i < elems.length := by omega
      rw [List.getElem?_eq_getElem hlt] at h1
      obtain ⟨row, hr, ht⟩ := Option.bind_eq_some_iff.1 h1
      obtain ⟨hl, hc⟩ := cells_at hr
      exact ⟨row, hl, fun j v hj => by rw [← add_add']; exact hc j v hj, ih _ _ _ ht⟩
   | _ => simp only [RowIs, hu]
theorem rowIs_int {n : Nat} {t : TypeId} {k : IntKind} {cs : List Value} (hu : P.underlying t = some (.int k)) (h : RowIs P w n t cs) : ∃ z, cs = [.int k z] ∧ (Lit.int k z).wf = true := by
 cases n with
 | zero => exact h.elim
 | succ n => simpa only [RowIs, hu] using h
theorem rowIs_bool {n : Nat} {t : TypeId} {cs : List Value} (hu : P.underlying t = some .bool) (h : RowIs P w n t cs) : ∃ b, cs = [.bool b] := by
 cases n with
 | zero => exact h.elim
 | succ n => simpa only [RowIs, hu] using h
theorem rowIs_string {n : Nat} {t : TypeId} {cs : List Value} (hu : P.underlying t = some .string) (h : RowIs P w n t cs) : ∃ s : ByteArray, cs = [.string s] ∧ s.size ≤ maxLen := by
 cases n with
 | zero => exact h.elim
 | succ n => simpa only [RowIs, hu] using h
theorem rowIs_struct {n : Nat} {t : TypeId} {fs : Array Field} {cs : List Value} (hu : P.underlying t = some (.struct fs)) (h : RowIs P w n t cs) :
  cs.length = P.cellsOf t ∧ ∃ m, ∀ f ∈ fs.toList, RowIs P w m f.type ((cs.drop f.offset).take (P.cellsOf f.type)) := by
 cases n with
 | zero => exact h.elim
 | succ n => simp only [RowIs, hu] at h; exact ⟨h.1, n, h.2⟩
theorem rowIs_slice {n : Nat} {t e : TypeId} {cs : List Value} (hu : P.underlying t = some (.slice e)) (h : RowIs P w n t cs) :
  cs = [.slice none 0 0] ∨ ∃ (a : Addr) (len cap m : Nat), cs = [.slice (some a) len cap] ∧ len ≤ cap ∧ cap ≤ maxLen ∧
    ∀ i, i < len → ∃ row, row.length = P.cellsOf e ∧ (∀ j v, row[j]? = some v → w.cell? (a.add (i * P.cellsOf e + j)) = some v) ∧ RowIs P w m e row := by
 cases n with
 | zero => exact h.elim
 | succ n =>
  simp only [RowIs, hu] at h
  rcases h with h | ⟨a, len, cap, h1, h2, h3, h4⟩
  · exact .inl h
  · exact .inr ⟨a, len, cap, n, h1, h2, h3, h4⟩
theorem wf_bd {z : Int} (h : (Lit.int .i64 z).wf = true) : -9223372036854775808 ≤ z ∧ z ≤ 9223372036854775807 := by
 simp [Lit.wf, IntKind.min, IntKind.max, IntKind.signed, IntKind.bits] at h
 omega
end
end Go.Proofs.YtbpcjpiaimdpnaaGreatDoor
