/- The contract of the reference's word reader. -/
import Derived.Test.YteondblmcooklaaDoorScanW
namespace Go.Proofs.YteondblmcooklaaDoor
open Go.RowKit
set_option linter.unusedVariables false
attribute [local go_sem] cOf_get
def OneOut (s : ByteArray) (i : Nat) (B : Nat) (w : World) (e : Ending) (w' : World) : Prop :=
  Below B w w' ∧ ((∃ er pl, wordR s i = .err er pl ∧ e = .returned (.tuple #[.agg #[.int .i64 0, .string ⟨#[]⟩, .int .i64 0, .int .i64 0], .int .i64 0, .int .i64 er, .int .i64 pl])) ∨
    ∃ k t n nx, wordR s i = .ok k t n nx ∧ e = .returned (.tuple #[.agg #[.int .i64 k, .string t, .int .i64 n, .int .i64 i], .int .i64 nx, .int .i64 0, .int .i64 0]))
set_option maxRecDepth 100000 in
set_option maxHeartbeats 400000 in
theorem one_semi (s : ByteArray) (i : Nat) (w : World) (hs : s.size ≤ 20000) (hi : i < s.size) (hc : cOf s i = 59) :
    Calls Tryd.prog 42 #[.string s, .int .i64 i] w (OneOut s i w.heap.size w) := by
  have hB : (cOf s i == 59) = true := by simp [hc]
  have HC := Lib.hid hc
  clear hc
  go_enter Tryd.func42, Tryd.ntmps42; (try simp only [List.append_eq, List.cons_append, List.nil_append])
  go_wp2_with fail
  refine bodyPost_ret (v := .tuple #[.agg #[.int .i64 3, .string ⟨#[59]⟩, .int .i64 0, .int .i64 i], .int .i64 ((i : Int) + 1), .int .i64 0, .int .i64 0]) (by simp only [results, Tryd.results42]; go_simp) rfl ⟨?_, .inr ⟨3, ⟨#[59]⟩, 0, i + 1, ?_, rfl⟩⟩
  · ((with_reducible (repeat (first | exact bR _ _ | refine bS ?_ ?_ _ | refine bA ?_ ?_ _ | refine bD ?_ | refine bT ?_ (by assumption) ?_ | refine bO (by assumption) ?_ ?_))) <;> (first | omega | (simp; done) | (simp <;> omega)))
  · simp [wordR, HC.out]
set_option maxRecDepth 100000 in
set_option maxHeartbeats 400000 in
theorem one_name (s : ByteArray) (i : Nat) (w : World) (hs : s.size ≤ 20000) (hi : i < s.size) (hc : cOf s i ≠ 59) (hl : letB (cOf s i) = true) :
    Calls Tryd.prog 42 #[.string s, .int .i64 i] w (OneOut s i w.heap.size w) := by
  have hB : (cOf s i == 59) = false := by simp [hc]
  have HC := Lib.hid hc
  clear hc
  have HL := Lib.hid hl
  have hle := run_le alnumB s (i := i) (by omega)
  have hge := run_ge alnumB s i
  go_enter Tryd.func42, Tryd.ntmps42; (try simp only [List.append_eq, List.cons_append, List.nil_append])
  go_wp2_with (first | (go_at_call 55; refine (rlet_any _ _).mono ?_; rintro e w' ⟨rfl, rfl⟩) | (go_at_call 56; refine (rdig_any _ _).mono ?_; rintro e w' ⟨rfl, rfl⟩))
  obtain ⟨E, hE⟩ : ∃ E, E = run alnumB s i := ⟨_, rfl⟩
  rw [← hE] at hle hge
  have HE := Lib.hid hE
  clear hE
  go_loop [8] (fun t => ∃ k : Nat, i ≤ k ∧ k ≤ s.size ∧ t = .int .i64 k ∧ Hid (run alnumB s k = E)) (fun t => s.size - (intOf t).toNat)
  case atStart => exact ⟨i, Nat.le_refl _, by omega, rfl, HE.out.symm⟩
  case round =>
    obtain ⟨k, hk0, hk, rfl, HK⟩ := hrel
    by_cases hlt : k < s.size
    · by_cases hp : alnumB (cOf s k) = true
      · have hst := Lib.hid ((run_step hlt hp).trans HK.out)
        have HP : (letB (cOf s k) = true) ∨ (letB (cOf s k) = false ∧ digB (cOf s k) = true) := by
          cases h1 : letB (cOf s k) <;> cases h2 : digB (cOf s k) <;> simp_all [alnumB]
        clear hp
        rcases HP with hp | ⟨hp, hp'⟩
        all_goals
          go_wp2_with (first | (go_at_call 55; refine (rlet_any _ _).mono ?_; rintro e w' ⟨rfl, rfl⟩) | (go_at_call 56; refine (rdig_any _ _).mono ?_; rintro e w' ⟨rfl, rfl⟩))
          go_round
          case rel => exact ⟨k + 1, by omega, by omega, by go_num, hst.out⟩
          case measure => simp [intOf]; omega
      · have hp1 : letB (cOf s k) = false := by cases h1 : letB (cOf s k) <;> simp_all [alnumB]
        have hp2 : digB (cOf s k) = false := by cases h1 : digB (cOf s k) <;> simp_all [alnumB]
        have hEk : k = E := by rw [← HK.out]; exact (run_stop (fun h => hp h.2)).symm
        clear hp
        subst hEk
        by_cases hbig : 12 < k - i
        · have hb2 : (12 : Int) < (k : Int) - i := by omega
          go_wp2_with (first | (go_at_call 55; refine (rlet_any _ _).mono ?_; rintro e w' ⟨rfl, rfl⟩) | (go_at_call 56; refine (rdig_any _ _).mono ?_; rintro e w' ⟨rfl, rfl⟩))
          refine bodyPost_ret (v := .tuple #[.agg #[.int .i64 0, .string ⟨#[]⟩, .int .i64 0, .int .i64 0], .int .i64 0, .int .i64 6, .int .i64 i]) (by simp only [results, Tryd.results42]; go_simp) rfl ⟨?_, .inl ⟨6, i, ?_, rfl⟩⟩
          · ((with_reducible (repeat (first | exact bR _ _ | refine bS ?_ ?_ _ | refine bA ?_ ?_ _ | refine bD ?_ | refine bT ?_ (by assumption) ?_ | refine bO (by assumption) ?_ ?_))) <;> (first | omega | (simp; done) | (simp <;> omega)))
          · simp [wordR, HC.out, HL.out, ← HE.out, hbig]
        · have hb2 : ¬ (12 : Int) < (k : Int) - i := by omega
          go_wp2_with (first | (go_at_call 55; refine (rlet_any _ _).mono ?_; rintro e w' ⟨rfl, rfl⟩) | (go_at_call 56; refine (rdig_any _ _).mono ?_; rintro e w' ⟨rfl, rfl⟩))
          refine bodyPost_ret (v := .tuple #[.agg #[.int .i64 1, .string (s.extract i k), .int .i64 (0), .int .i64 i], .int .i64 k, .int .i64 0, .int .i64 0]) (by simp only [results, Tryd.results42]; go_simp) rfl ⟨?_, .inr ⟨1, s.extract i k, 0, k, ?_, rfl⟩⟩
          · ((with_reducible (repeat (first | exact bR _ _ | refine bS ?_ ?_ _ | refine bA ?_ ?_ _ | refine bD ?_ | refine bT ?_ (by assumption) ?_ | refine bO (by assumption) ?_ ?_))) <;> (first | omega | (simp; done) | (simp <;> omega)))
          · simp [wordR, HC.out, HL.out, ← HE.out, hbig]
    · have hEk : k = E := by rw [← HK.out]; exact (run_stop (fun h => hlt h.1)).symm
      subst hEk
      by_cases hbig : 12 < k - i
      · have hb2 : (12 : Int) < (k : Int) - i := by omega
        go_wp2_with (first | (go_at_call 55; refine (rlet_any _ _).mono ?_; rintro e w' ⟨rfl, rfl⟩) | (go_at_call 56; refine (rdig_any _ _).mono ?_; rintro e w' ⟨rfl, rfl⟩))
        refine bodyPost_ret (v := .tuple #[.agg #[.int .i64 0, .string ⟨#[]⟩, .int .i64 0, .int .i64 0], .int .i64 0, .int .i64 6, .int .i64 i]) (by simp only [results, Tryd.results42]; go_simp) rfl ⟨?_, .inl ⟨6, i, ?_, rfl⟩⟩
        · ((with_reducible (repeat (first | exact bR _ _ | refine bS ?_ ?_ _ | refine bA ?_ ?_ _ | refine bD ?_ | refine bT ?_ (by assumption) ?_ | refine bO (by assumption) ?_ ?_))) <;> (first | omega | (simp; done) | (simp <;> omega)))
        · simp [wordR, HC.out, HL.out, ← HE.out, hbig]
      · have hb2 : ¬ (12 : Int) < (k : Int) - i := by omega
        go_wp2_with (first | (go_at_call 55; refine (rlet_any _ _).mono ?_; rintro e w' ⟨rfl, rfl⟩) | (go_at_call 56; refine (rdig_any _ _).mono ?_; rintro e w' ⟨rfl, rfl⟩))
        refine bodyPost_ret (v := .tuple #[.agg #[.int .i64 1, .string (s.extract i k), .int .i64 (0), .int .i64 i], .int .i64 k, .int .i64 0, .int .i64 0]) (by simp only [results, Tryd.results42]; go_simp) rfl ⟨?_, .inr ⟨1, s.extract i k, 0, k, ?_, rfl⟩⟩
        · ((with_reducible (repeat (first | exact bR _ _ | refine bS ?_ ?_ _ | refine bA ?_ ?_ _ | refine bD ?_ | refine bT ?_ (by assumption) ?_ | refine bO (by assumption) ?_ ?_))) <;> (first | omega | (simp; done) | (simp <;> omega)))
        · simp [wordR, HC.out, HL.out, ← HE.out, hbig]
set_option maxRecDepth 100000 in
set_option maxHeartbeats 800000 in
theorem one_minus_none (s : ByteArray) (i : Nat) (w : World) (hs : s.size ≤ 20000) (hi : i < s.size) (hc : cOf s i ≠ 59) (hl : letB (cOf s i) = false) (hm : cOf s i = 45) (hd : ¬ (i + 1 < s.size ∧ digB (cOf s (i + 1)) = true)) :
    Calls Tryd.prog 42 #[.string s, .int .i64 i] w (OneOut s i w.heap.size w) := by
  have hB : (cOf s i == 59) = false := by simp [hc]
  have hM : (cOf s i == 45) = true := by simp [hm]
  have HC := Lib.hid hc
  have HM := Lib.hid hm
  have HL := Lib.hid hl
  clear hc hm
  have HR := Lib.hid (run_stop hd)
  by_cases hq : i + 1 < s.size
  · have hq' : ((i : Int) + 1 == (s.size : Int)) = false := by simp; omega
    have hz : digB (cOf s (i + 1)) = false := by cases h : digB (cOf s (i + 1)); rfl; exact absurd ⟨hq, h⟩ hd
    clear hd
    go_enter Tryd.func42, Tryd.ntmps42; (try simp only [List.append_eq, List.cons_append, List.nil_append])
    go_wp2_with (first | (go_at_call 55; refine (rlet_any _ _).mono ?_; rintro e w' ⟨rfl, rfl⟩) | (go_at_call 56; refine (rdig_any _ _).mono ?_; rintro e w' ⟨rfl, rfl⟩))
    refine bodyPost_ret (v := .tuple #[.agg #[.int .i64 0, .string ⟨#[]⟩, .int .i64 0, .int .i64 0], .int .i64 0, .int .i64 4, .int .i64 i]) (by simp only [results, Tryd.results42]; go_simp) rfl ⟨?_, .inl ⟨4, i, wr_nodig HC.out HL.out (by rw [if_pos HM.out]) HR.out, rfl⟩⟩
    ((with_reducible (repeat (first | exact bR _ _ | refine bS ?_ ?_ _ | refine bA ?_ ?_ _ | refine bD ?_ | refine bT ?_ (by assumption) ?_ | refine bO (by assumption) ?_ ?_))) <;> (first | omega | (simp; done) | (simp <;> omega)))
  · have hq' : ((i : Int) + 1 == (s.size : Int)) = true := by simp; omega
    clear hd
    go_enter Tryd.func42, Tryd.ntmps42; (try simp only [List.append_eq, List.cons_append, List.nil_append])
    go_wp2_with (first | (go_at_call 55; refine (rlet_any _ _).mono ?_; rintro e w' ⟨rfl, rfl⟩) | (go_at_call 56; refine (rdig_any _ _).mono ?_; rintro e w' ⟨rfl, rfl⟩))
    refine bodyPost_ret (v := .tuple #[.agg #[.int .i64 0, .string ⟨#[]⟩, .int .i64 0, .int .i64 0], .int .i64 0, .int .i64 4, .int .i64 i]) (by simp only [results, Tryd.results42]; go_simp) rfl ⟨?_, .inl ⟨4, i, wr_nodig HC.out HL.out (by rw [if_pos HM.out]) HR.out, rfl⟩⟩
    ((with_reducible (repeat (first | exact bR _ _ | refine bS ?_ ?_ _ | refine bA ?_ ?_ _ | refine bD ?_ | refine bT ?_ (by assumption) ?_ | refine bO (by assumption) ?_ ?_))) <;> (first | omega | (simp; done) | (simp <;> omega)))
set_option maxRecDepth 100000 in
set_option maxHeartbeats 800000 in
theorem one_minus (s : ByteArray) (i : Nat) (w : World) (hs : s.size ≤ 20000) (hi : i < s.size) (hc : cOf s i ≠ 59) (hl : letB (cOf s i) = false) (hm : cOf s i = 45) (hd1 : i + 1 < s.size) (hd2 : digB (cOf s (i + 1)) = true) :
    Calls Tryd.prog 42 #[.string s, .int .i64 i] w (OneOut s i w.heap.size w) := by
  have hB : (cOf s i == 59) = false := by simp [hc]
  have hM : (cOf s i == 45) = true := by simp [hm]
  have HC := Lib.hid hc
  have HM := Lib.hid hm
  have HL := Lib.hid hl
  clear hc hm
  have hq' : ((i : Int) + 1 == (s.size : Int)) = false := by simp; omega
  have hle := run_le digB s (i := i + 1) (by omega)
  have hge : i + 1 + 1 ≤ run digB s (i + 1) := by rw [← run_step hd1 hd2]; exact run_ge _ _ _
  go_enter Tryd.func42, Tryd.ntmps42; (try simp only [List.append_eq, List.cons_append, List.nil_append])
  go_wp2_with (first | (go_at_call 55; refine (rlet_any _ _).mono ?_; rintro e w' ⟨rfl, rfl⟩) | (go_at_call 56; refine (rdig_any _ _).mono ?_; rintro e w' ⟨rfl, rfl⟩))
  obtain ⟨E, hE⟩ : ∃ E, E = run digB s (i + 1) := ⟨_, rfl⟩
  obtain ⟨V, hV⟩ : ∃ V, V = num 1073741825 s (i + 1) 0 := ⟨_, rfl⟩
  rw [← hE] at hle hge
  have HE := Lib.hid hE
  have HV := Lib.hid hV
  clear hE hV
  go_loop [8, 9] (fun t u => ∃ (k : Nat) (n : Int), i + 1 ≤ k ∧ k ≤ s.size ∧ t = .int .i64 k ∧ u = .int .i64 n ∧ 0 ≤ n ∧ n ≤ 1073741825 ∧ Hid (run digB s k = E) ∧ Hid (num 1073741825 s k n = V)) (fun t _ => s.size - (intOf t).toNat)
  case atStart => exact ⟨i + 1, 0, Nat.le_refl _, by omega, by go_num, rfl, by omega, by omega, HE.out.symm, HV.out.symm⟩
  case round =>
    obtain ⟨k, n, hk0, hk, rfl, rfl, hn0, hn1, HK, HN⟩ := hrel
    have hcb := cOf_bd s k
    obtain ⟨hcb1, hcb2⟩ := hcb
    by_cases hlt : k < s.size
    · cases hp : digB (cOf s k)
      · have hEk : k = E := by rw [← HK.out]; exact (run_stop (fun h => by rw [hp] at h; exact absurd h.2 (by simp))).symm
        have hVk : n = V := by rw [← HN.out]; exact (num_stop (fun h => by rw [hp] at h; exact absurd h.2 (by simp))).symm
        subst hEk hVk
        clear HK HN
        have HN := Lib.hid (show k ≠ i + 1 by omega)
        have HN' := Lib.hid (fun h => HN.out (HE.out.trans h) : run digB s (i + 1) ≠ i + 1)
        by_cases hb : 1073741824 < n
        · have HH : Hid (1073741824 < num 1073741825 s (i + 1) 0) := by rw [← HV.out]; exact hb
          go_wp2_with (first | (go_at_call 55; refine (rlet_any _ _).mono ?_; rintro e w' ⟨rfl, rfl⟩) | (go_at_call 56; refine (rdig_any _ _).mono ?_; rintro e w' ⟨rfl, rfl⟩))
          refine bodyPost_ret (v := .tuple #[.agg #[.int .i64 0, .string ⟨#[]⟩, .int .i64 0, .int .i64 0], .int .i64 0, .int .i64 5, .int .i64 i]) (by simp only [results, Tryd.results42]; go_simp) rfl ⟨?_, .inl ⟨5, i, wr_range HC.out HL.out (by rw [if_pos HM.out]) HN'.out HH.out, rfl⟩⟩
          ((with_reducible (repeat (first | exact bR _ _ | refine bS ?_ ?_ _ | refine bA ?_ ?_ _ | refine bD ?_ | refine bT ?_ (by assumption) ?_ | refine bO (by assumption) ?_ ?_))) <;> (first | omega | (simp; done) | (simp <;> omega)))
        · have HH : Hid (num 1073741825 s (i + 1) 0 = n) := HV.out.symm
          have HHb : Hid (n ≤ 1073741824) := Int.not_lt.1 hb
          cases hq : letB (cOf s k)
          · go_wp2_with (first | (go_at_call 55; refine (rlet_any _ _).mono ?_; rintro e w' ⟨rfl, rfl⟩) | (go_at_call 56; refine (rdig_any _ _).mono ?_; rintro e w' ⟨rfl, rfl⟩))
            refine bodyPost_ret (v := .tuple #[.agg #[.int .i64 2, .string (s.extract i k), .int .i64 (-n), .int .i64 i], .int .i64 k, .int .i64 0, .int .i64 0]) (by simp only [results, Tryd.results42]; go_simp) rfl ⟨?_, .inr ⟨2, s.extract i k, -n, k, ?_, rfl⟩⟩
            · ((with_reducible (repeat (first | exact bR _ _ | refine bS ?_ ?_ _ | refine bA ?_ ?_ _ | refine bD ?_ | refine bT ?_ (by assumption) ?_ | refine bO (by assumption) ?_ ?_))) <;> (first | omega | (simp; done) | (simp <;> omega)))
            · rw [wr_num HC.out HL.out (by rw [if_pos HM.out]) HE.out.symm HN.out HH.out (Int.not_lt.2 HHb.out) (fun h => by rw [hq] at h; exact absurd h.2 (by simp)), if_pos HM.out]
          · go_wp2_with (first | (go_at_call 55; refine (rlet_any _ _).mono ?_; rintro e w' ⟨rfl, rfl⟩) | (go_at_call 56; refine (rdig_any _ _).mono ?_; rintro e w' ⟨rfl, rfl⟩))
            refine bodyPost_ret (v := .tuple #[.agg #[.int .i64 0, .string ⟨#[]⟩, .int .i64 0, .int .i64 0], .int .i64 0, .int .i64 4, .int .i64 k]) (by simp only [results, Tryd.results42]; go_simp) rfl ⟨?_, .inl ⟨4, k, wr_glued HC.out HL.out (by rw [if_pos HM.out]) HE.out.symm HN.out HH.out (Int.not_lt.2 HHb.out) hlt hq, rfl⟩⟩
            ((with_reducible (repeat (first | exact bR _ _ | refine bS ?_ ?_ _ | refine bA ?_ ?_ _ | refine bD ?_ | refine bT ?_ (by assumption) ?_ | refine bO (by assumption) ?_ ?_))) <;> (first | omega | (simp; done) | (simp <;> omega)))
      · have hst := Lib.hid ((run_step hlt hp).trans HK.out)
        have hst2 := Lib.hid ((num_step hlt hp).trans HN.out)
        have hd : 48 ≤ cOf s k ∧ cOf s k ≤ 57 := by simpa [digB] using hp
        obtain ⟨hd3, hd4⟩ := hd
        go_wp2_with (first | (go_at_call 55; refine (rlet_any _ _).mono ?_; rintro e w' ⟨rfl, rfl⟩) | (go_at_call 56; refine (rdig_any _ _).mono ?_; rintro e w' ⟨rfl, rfl⟩))
        all_goals
          go_round
          case rel => exact ⟨k + 1, min (10 * n + (cOf s k - 48)) 1073741825, by omega, by omega, by go_num, by congr 1; omega, by omega, by omega, hst.out, hst2.out⟩
          case measure => simp [intOf]; omega
    · have hEk : k = E := by rw [← HK.out]; exact (run_stop (fun h => hlt h.1)).symm
      have hVk : n = V := by rw [← HN.out]; exact (num_stop (fun h => hlt h.1)).symm
      subst hEk hVk
      clear HK HN
      have HN := Lib.hid (show k ≠ i + 1 by omega)
      have HN' := Lib.hid (fun h => HN.out (HE.out.trans h) : run digB s (i + 1) ≠ i + 1)
      by_cases hb : 1073741824 < n
      · have HH : Hid (1073741824 < num 1073741825 s (i + 1) 0) := by rw [← HV.out]; exact hb
        go_wp2_with (first | (go_at_call 55; refine (rlet_any _ _).mono ?_; rintro e w' ⟨rfl, rfl⟩) | (go_at_call 56; refine (rdig_any _ _).mono ?_; rintro e w' ⟨rfl, rfl⟩))
        refine bodyPost_ret (v := .tuple #[.agg #[.int .i64 0, .string ⟨#[]⟩, .int .i64 0, .int .i64 0], .int .i64 0, .int .i64 5, .int .i64 i]) (by simp only [results, Tryd.results42]; go_simp) rfl ⟨?_, .inl ⟨5, i, wr_range HC.out HL.out (by rw [if_pos HM.out]) HN'.out HH.out, rfl⟩⟩
        ((with_reducible (repeat (first | exact bR _ _ | refine bS ?_ ?_ _ | refine bA ?_ ?_ _ | refine bD ?_ | refine bT ?_ (by assumption) ?_ | refine bO (by assumption) ?_ ?_))) <;> (first | omega | (simp; done) | (simp <;> omega)))
      · have HH : Hid (num 1073741825 s (i + 1) 0 = n) := HV.out.symm
        have HHb : Hid (n ≤ 1073741824) := Int.not_lt.1 hb
        go_wp2_with (first | (go_at_call 55; refine (rlet_any _ _).mono ?_; rintro e w' ⟨rfl, rfl⟩) | (go_at_call 56; refine (rdig_any _ _).mono ?_; rintro e w' ⟨rfl, rfl⟩))
        refine bodyPost_ret (v := .tuple #[.agg #[.int .i64 2, .string (s.extract i k), .int .i64 (-n), .int .i64 i], .int .i64 k, .int .i64 0, .int .i64 0]) (by simp only [results, Tryd.results42]; go_simp) rfl ⟨?_, .inr ⟨2, s.extract i k, -n, k, ?_, rfl⟩⟩
        · ((with_reducible (repeat (first | exact bR _ _ | refine bS ?_ ?_ _ | refine bA ?_ ?_ _ | refine bD ?_ | refine bT ?_ (by assumption) ?_ | refine bO (by assumption) ?_ ?_))) <;> (first | omega | (simp; done) | (simp <;> omega)))
        · rw [wr_num HC.out HL.out (by rw [if_pos HM.out]) HE.out.symm HN.out HH.out (Int.not_lt.2 HHb.out) (fun h => hlt h.1), if_pos HM.out]
set_option maxRecDepth 100000 in
set_option maxHeartbeats 800000 in
theorem one_plain_none (s : ByteArray) (i : Nat) (w : World) (hs : s.size ≤ 20000) (hi : i < s.size) (hc : cOf s i ≠ 59) (hl : letB (cOf s i) = false) (hm : cOf s i ≠ 45) (hd : ¬ (i < s.size ∧ digB (cOf s (i)) = true)) :
    Calls Tryd.prog 42 #[.string s, .int .i64 i] w (OneOut s i w.heap.size w) := by
  have hB : (cOf s i == 59) = false := by simp [hc]
  have hM : (cOf s i == 45) = false := by simp [hm]
  have HC := Lib.hid hc
  have HM := Lib.hid hm
  have HL := Lib.hid hl
  clear hc hm
  have HR := Lib.hid (run_stop hd)
  by_cases hq : i < s.size
  · have hq' : ((i : Int) == (s.size : Int)) = false := by simp; omega
    have hz : digB (cOf s (i)) = false := by cases h : digB (cOf s (i)); rfl; exact absurd ⟨hq, h⟩ hd
    clear hd
    go_enter Tryd.func42, Tryd.ntmps42; (try simp only [List.append_eq, List.cons_append, List.nil_append])
    go_wp2_with (first | (go_at_call 55; refine (rlet_any _ _).mono ?_; rintro e w' ⟨rfl, rfl⟩) | (go_at_call 56; refine (rdig_any _ _).mono ?_; rintro e w' ⟨rfl, rfl⟩))
    refine bodyPost_ret (v := .tuple #[.agg #[.int .i64 0, .string ⟨#[]⟩, .int .i64 0, .int .i64 0], .int .i64 0, .int .i64 4, .int .i64 i]) (by simp only [results, Tryd.results42]; go_simp) rfl ⟨?_, .inl ⟨4, i, wr_nodig HC.out HL.out (by rw [if_neg HM.out]) HR.out, rfl⟩⟩
    ((with_reducible (repeat (first | exact bR _ _ | refine bS ?_ ?_ _ | refine bA ?_ ?_ _ | refine bD ?_ | refine bT ?_ (by assumption) ?_ | refine bO (by assumption) ?_ ?_))) <;> (first | omega | (simp; done) | (simp <;> omega)))
  · exact absurd hi hq
set_option maxRecDepth 100000 in
set_option maxHeartbeats 800000 in
theorem one_plain (s : ByteArray) (i : Nat) (w : World) (hs : s.size ≤ 20000) (hi : i < s.size) (hc : cOf s i ≠ 59) (hl : letB (cOf s i) = false) (hm : cOf s i ≠ 45) (hd1 : i < s.size) (hd2 : digB (cOf s (i)) = true) :
    Calls Tryd.prog 42 #[.string s, .int .i64 i] w (OneOut s i w.heap.size w) := by
  have hB : (cOf s i == 59) = false := by simp [hc]
  have hM : (cOf s i == 45) = false := by simp [hm]
  have HC := Lib.hid hc
  have HM := Lib.hid hm
  have HL := Lib.hid hl
  clear hc hm
  have hq' : ((i : Int) == (s.size : Int)) = false := by simp; omega
  have hle := run_le digB s (i := i) (by omega)
  have hge : i + 1 ≤ run digB s (i) := by rw [← run_step hd1 hd2]; exact run_ge _ _ _
  go_enter Tryd.func42, Tryd.ntmps42; (try simp only [List.append_eq, List.cons_append, List.nil_append])
  go_wp2_with (first | (go_at_call 55; refine (rlet_any _ _).mono ?_; rintro e w' ⟨rfl, rfl⟩) | (go_at_call 56; refine (rdig_any _ _).mono ?_; rintro e w' ⟨rfl, rfl⟩))
  obtain ⟨E, hE⟩ : ∃ E, E = run digB s (i) := ⟨_, rfl⟩
  obtain ⟨V, hV⟩ : ∃ V, V = num 1073741825 s (i) 0 := ⟨_, rfl⟩
  rw [← hE] at hle hge
  have HE := Lib.hid hE
  have HV := Lib.hid hV
  clear hE hV
  go_loop [8, 9] (fun t u => ∃ (k : Nat) (n : Int), i ≤ k ∧ k ≤ s.size ∧ t = .int .i64 k ∧ u = .int .i64 n ∧ 0 ≤ n ∧ n ≤ 1073741825 ∧ Hid (run digB s k = E) ∧ Hid (num 1073741825 s k n = V)) (fun t _ => s.size - (intOf t).toNat)
  case atStart => exact ⟨i, 0, Nat.le_refl _, by omega, by go_num, rfl, by omega, by omega, HE.out.symm, HV.out.symm⟩
  case round =>
    obtain ⟨k, n, hk0, hk, rfl, rfl, hn0, hn1, HK, HN⟩ := hrel
    have hcb := cOf_bd s k
    obtain ⟨hcb1, hcb2⟩ := hcb
    by_cases hlt : k < s.size
    · cases hp : digB (cOf s k)
      · have hEk : k = E := by rw [← HK.out]; exact (run_stop (fun h => by rw [hp] at h; exact absurd h.2 (by simp))).symm
        have hVk : n = V := by rw [← HN.out]; exact (num_stop (fun h => by rw [hp] at h; exact absurd h.2 (by simp))).symm
        subst hEk hVk
        clear HK HN
        have HN := Lib.hid (show k ≠ i by omega)
        have HN' := Lib.hid (fun h => HN.out (HE.out.trans h) : run digB s (i) ≠ i)
        by_cases hb : 1073741824 < n
        · have HH : Hid (1073741824 < num 1073741825 s (i) 0) := by rw [← HV.out]; exact hb
          go_wp2_with (first | (go_at_call 55; refine (rlet_any _ _).mono ?_; rintro e w' ⟨rfl, rfl⟩) | (go_at_call 56; refine (rdig_any _ _).mono ?_; rintro e w' ⟨rfl, rfl⟩))
          refine bodyPost_ret (v := .tuple #[.agg #[.int .i64 0, .string ⟨#[]⟩, .int .i64 0, .int .i64 0], .int .i64 0, .int .i64 5, .int .i64 i]) (by simp only [results, Tryd.results42]; go_simp) rfl ⟨?_, .inl ⟨5, i, wr_range HC.out HL.out (by rw [if_neg HM.out]) HN'.out HH.out, rfl⟩⟩
          ((with_reducible (repeat (first | exact bR _ _ | refine bS ?_ ?_ _ | refine bA ?_ ?_ _ | refine bD ?_ | refine bT ?_ (by assumption) ?_ | refine bO (by assumption) ?_ ?_))) <;> (first | omega | (simp; done) | (simp <;> omega)))
        · have HH : Hid (num 1073741825 s (i) 0 = n) := HV.out.symm
          have HHb : Hid (n ≤ 1073741824) := Int.not_lt.1 hb
          cases hq : letB (cOf s k)
          · go_wp2_with (first | (go_at_call 55; refine (rlet_any _ _).mono ?_; rintro e w' ⟨rfl, rfl⟩) | (go_at_call 56; refine (rdig_any _ _).mono ?_; rintro e w' ⟨rfl, rfl⟩))
            refine bodyPost_ret (v := .tuple #[.agg #[.int .i64 2, .string (s.extract i k), .int .i64 (n), .int .i64 i], .int .i64 k, .int .i64 0, .int .i64 0]) (by simp only [results, Tryd.results42]; go_simp) rfl ⟨?_, .inr ⟨2, s.extract i k, n, k, ?_, rfl⟩⟩
            · ((with_reducible (repeat (first | exact bR _ _ | refine bS ?_ ?_ _ | refine bA ?_ ?_ _ | refine bD ?_ | refine bT ?_ (by assumption) ?_ | refine bO (by assumption) ?_ ?_))) <;> (first | omega | (simp; done) | (simp <;> omega)))
            · rw [wr_num HC.out HL.out (by rw [if_neg HM.out]) HE.out.symm HN.out HH.out (Int.not_lt.2 HHb.out) (fun h => by rw [hq] at h; exact absurd h.2 (by simp)), if_neg HM.out]
          · go_wp2_with (first | (go_at_call 55; refine (rlet_any _ _).mono ?_; rintro e w' ⟨rfl, rfl⟩) | (go_at_call 56; refine (rdig_any _ _).mono ?_; rintro e w' ⟨rfl, rfl⟩))
            refine bodyPost_ret (v := .tuple #[.agg #[.int .i64 0, .string ⟨#[]⟩, .int .i64 0, .int .i64 0], .int .i64 0, .int .i64 4, .int .i64 k]) (by simp only [results, Tryd.results42]; go_simp) rfl ⟨?_, .inl ⟨4, k, wr_glued HC.out HL.out (by rw [if_neg HM.out]) HE.out.symm HN.out HH.out (Int.not_lt.2 HHb.out) hlt hq, rfl⟩⟩
            ((with_reducible (repeat (first | exact bR _ _ | refine bS ?_ ?_ _ | refine bA ?_ ?_ _ | refine bD ?_ | refine bT ?_ (by assumption) ?_ | refine bO (by assumption) ?_ ?_))) <;> (first | omega | (simp; done) | (simp <;> omega)))
      · have hst := Lib.hid ((run_step hlt hp).trans HK.out)
        have hst2 := Lib.hid ((num_step hlt hp).trans HN.out)
        have hd : 48 ≤ cOf s k ∧ cOf s k ≤ 57 := by simpa [digB] using hp
        obtain ⟨hd3, hd4⟩ := hd
        go_wp2_with (first | (go_at_call 55; refine (rlet_any _ _).mono ?_; rintro e w' ⟨rfl, rfl⟩) | (go_at_call 56; refine (rdig_any _ _).mono ?_; rintro e w' ⟨rfl, rfl⟩))
        all_goals
          go_round
          case rel => exact ⟨k + 1, min (10 * n + (cOf s k - 48)) 1073741825, by omega, by omega, by go_num, by congr 1; omega, by omega, by omega, hst.out, hst2.out⟩
          case measure => simp [intOf]; omega
    · have hEk : k = E := by rw [← HK.out]; exact (run_stop (fun h => hlt h.1)).symm
      have hVk : n = V := by rw [← HN.out]; exact (num_stop (fun h => hlt h.1)).symm
      subst hEk hVk
      clear HK HN
      have HN := Lib.hid (show k ≠ i by omega)
      have HN' := Lib.hid (fun h => HN.out (HE.out.trans h) : run digB s (i) ≠ i)
      by_cases hb : 1073741824 < n
      · have HH : Hid (1073741824 < num 1073741825 s (i) 0) := by rw [← HV.out]; exact hb
        go_wp2_with (first | (go_at_call 55; refine (rlet_any _ _).mono ?_; rintro e w' ⟨rfl, rfl⟩) | (go_at_call 56; refine (rdig_any _ _).mono ?_; rintro e w' ⟨rfl, rfl⟩))
        refine bodyPost_ret (v := .tuple #[.agg #[.int .i64 0, .string ⟨#[]⟩, .int .i64 0, .int .i64 0], .int .i64 0, .int .i64 5, .int .i64 i]) (by simp only [results, Tryd.results42]; go_simp) rfl ⟨?_, .inl ⟨5, i, wr_range HC.out HL.out (by rw [if_neg HM.out]) HN'.out HH.out, rfl⟩⟩
        ((with_reducible (repeat (first | exact bR _ _ | refine bS ?_ ?_ _ | refine bA ?_ ?_ _ | refine bD ?_ | refine bT ?_ (by assumption) ?_ | refine bO (by assumption) ?_ ?_))) <;> (first | omega | (simp; done) | (simp <;> omega)))
      · have HH : Hid (num 1073741825 s (i) 0 = n) := HV.out.symm
        have HHb : Hid (n ≤ 1073741824) := Int.not_lt.1 hb
        go_wp2_with (first | (go_at_call 55; refine (rlet_any _ _).mono ?_; rintro e w' ⟨rfl, rfl⟩) | (go_at_call 56; refine (rdig_any _ _).mono ?_; rintro e w' ⟨rfl, rfl⟩))
        refine bodyPost_ret (v := .tuple #[.agg #[.int .i64 2, .string (s.extract i k), .int .i64 (n), .int .i64 i], .int .i64 k, .int .i64 0, .int .i64 0]) (by simp only [results, Tryd.results42]; go_simp) rfl ⟨?_, .inr ⟨2, s.extract i k, n, k, ?_, rfl⟩⟩
        · ((with_reducible (repeat (first | exact bR _ _ | refine bS ?_ ?_ _ | refine bA ?_ ?_ _ | refine bD ?_ | refine bT ?_ (by assumption) ?_ | refine bO (by assumption) ?_ ?_))) <;> (first | omega | (simp; done) | (simp <;> omega)))
        · rw [wr_num HC.out HL.out (by rw [if_neg HM.out]) HE.out.symm HN.out HH.out (Int.not_lt.2 HHb.out) (fun h => hlt h.1), if_neg HM.out]
theorem one_any (s : ByteArray) (i : Nat) (w : World) (hs : s.size ≤ 20000) (hi : i < s.size) : Calls Tryd.prog 42 #[.string s, .int .i64 i] w (OneOut s i w.heap.size w) := by
  by_cases hc : cOf s i = 59
  · exact one_semi s i w hs hi hc
  · cases hl : letB (cOf s i)
    · by_cases hm : cOf s i = 45
      · by_cases hd : i + 1 < s.size ∧ digB (cOf s (i + 1)) = true
        · exact one_minus s i w hs hi hc hl hm hd.1 hd.2
        · exact one_minus_none s i w hs hi hc hl hm hd
      · by_cases hd : i < s.size ∧ digB (cOf s i) = true
        · exact one_plain s i w hs hi hc hl hm hd.1 hd.2
        · exact one_plain_none s i w hs hi hc hl hm hd
    · exact one_name s i w hs hi hc hl
end Go.Proofs.YteondblmcooklaaDoor
