/- The contracts of Reduce, Halve and Root, of the program and of the reference. -/
import Derived.Test.YtkoejgpnlncgaaaVecE
import Derived.Deep.LoopGhost
import Derived.Lib.Hide
namespace Go.Proofs.Ytkoejgpnlncgaaa
open Go.RowKit
set_option linter.unusedVariables false
def reduceR (a b : Int) : V2 := if smallB a b = true ∧ ¬ (a = 0 ∧ b = 0) then (a.tdiv (Nat.gcd a.natAbs b.natAbs), b.tdiv (Nat.gcd a.natAbs b.natAbs)) else (0, 0)
theorem max_neg (a : Int) : max a (-a) = (a.natAbs : Int) := by omega
theorem gcd_step {g h : Int} (g0 : 0 ≤ g) (h0 : 0 < h) {G : Nat} (e : Int.gcd g h = G) : Int.gcd h (g % h) = G := by
  obtain ⟨n, rfl⟩ := Int.eq_ofNat_of_zero_le g0
  obtain ⟨m, rfl⟩ := Int.eq_ofNat_of_zero_le (Int.le_of_lt h0)
  have e1 : ((n : Int) % (m : Int)) = ((n % m : Nat) : Int) := rfl
  rw [e1]
  have e2 : Nat.gcd n m = G := e
  show Nat.gcd m (n % m) = G
  rw [← e2, Nat.gcd_comm n m, Nat.gcd_rec m n, Nat.gcd_comm]
theorem tdiv_bd {a B : Int} (G : Nat) (h1 : -B ≤ a) (h2 : a ≤ B) : -B ≤ a.tdiv G ∧ a.tdiv G ≤ B := by
  have h : (a.tdiv G).natAbs = a.natAbs / G := Int.natAbs_tdiv ..
  have h3 : a.natAbs / G ≤ a.natAbs := Nat.div_le_self _ _
  omega
def bigB (a b : Int) : Bool := decide (2097152 < a.natAbs) || decide (2097152 < b.natAbs)
def halvF : Nat → Int → Int → V2
  | 0, a, b => (a, b)
  | f + 1, a, b => if bigB a b = true then halvF f (a.tdiv 2) (b.tdiv 2) else (a, b)
def halveR (a b : Int) : V2 := if smallB a b = true then halvF 10 a b else (0, 0)
set_option maxHeartbeats 1000000 in
theorem vreduce_any (a b : Int) (w : World) :
    Calls Try.prog 56 #[.agg #[.int .i64 a, .int .i64 b]] w fun e w' => e = .returned (.agg #[.int .i64 (reduceR a b).1, .int .i64 (reduceR a b).2]) ∧ Below w.heap.size w w' := by
  unfold reduceR
  cases h1 : smallB a b
  · rw [if_neg (fun h => by cases h.1)]
    go_enter Try.func56, Try.ntmps56; (try simp only [List.append_eq, List.cons_append, List.nil_append])
    go_wp2_with (first | (go_at_call 45; refine (vsmall_any _ _ _).mono ?_; rintro e w1 ⟨rfl, hb1⟩; have hz1 : w.heap.size + 2 ≤ w1.heap.size := (by have h := hb1.size; (try simp at h); omega); have hbb := Below.mono hb1 (B' := w.heap.size + 2) (by (try simp) <;> omega); clear hb1; have hcc := fun o => hbb.cell (p := ⟨w.heap.size, o, none⟩) (by (try simp) <;> omega); have hff := fun o => hbb.frozen (p := ⟨w.heap.size, o, none⟩) (by (try simp) <;> omega); with_reducible apply cell_in (w := w1) (p := ⟨w.heap.size, 0, none⟩); (focus (rw [hcc]; go_simp; try (exact rfl))); intro cc; with_reducible apply cell_in (w := w1) (p := ⟨w.heap.size, 1, none⟩); (focus (rw [hcc]; go_simp; try (exact rfl))); intro cc; have fz : (∀ o, w1.frozen? ⟨w.heap.size, o, none⟩ = false) := (by intro o; rw [hff]; go_simp); have hl : w.heap.size < w1.heap.size ∧ w.heap.size < w1.heap.size + 1 ∧ w.heap.size < w1.heap.size + 1 + 1 ∧ w.heap.size < w1.heap.size + 1 + 1 + 1 := (by omega); clear hcc hff; have hcc := fun o => hbb.cell (p := ⟨w.heap.size + 1, o, none⟩) (by (try simp) <;> omega); have hff := fun o => hbb.frozen (p := ⟨w.heap.size + 1, o, none⟩) (by (try simp) <;> omega); with_reducible apply cell_in (w := w1) (p := ⟨w.heap.size + 1, 0, none⟩); (focus (rw [hcc]; go_simp; try (exact rfl))); intro cc; with_reducible apply cell_in (w := w1) (p := ⟨w.heap.size + 1, 1, none⟩); (focus (rw [hcc]; go_simp; try (exact rfl))); intro cc; have fz : (∀ o, w1.frozen? ⟨w.heap.size + 1, o, none⟩ = false) := (by intro o; rw [hff]; go_simp); have hl : w.heap.size + 1 < w1.heap.size ∧ w.heap.size + 1 < w1.heap.size + 1 ∧ w.heap.size + 1 < w1.heap.size + 1 + 1 ∧ w.heap.size + 1 < w1.heap.size + 1 + 1 + 1 := (by omega); clear hcc hff))
    refine bodyPost_ret (v := .agg #[.int .i64 0, .int .i64 0]) (by simp only [results, Try.results56]; go_simp) rfl ⟨?_, ?_⟩
    · rfl
    · (repeat (first | (with_reducible exact Below.refl _ _) | (with_reducible refine Below.setCell ?_ ?_ _) | (with_reducible refine Below.alloc ?_ ?_ _) | (with_reducible refine Below.drew ?_) | (with_reducible refine Below.trans ?_ (Below.mono (by assumption) ?_)) | (with_reducible refine Own.below (by assumption) ?_ ?_))) <;> (first | omega | (simp; done) | (simp <;> omega))
  · by_cases hz : a = 0 ∧ b = 0
    · obtain ⟨rfl, rfl⟩ := hz
      rw [if_neg (fun h => h.2 ⟨rfl, rfl⟩)]
      go_enter Try.func56, Try.ntmps56; (try simp only [List.append_eq, List.cons_append, List.nil_append])
      go_wp2_with (first | (go_at_call 45; refine (vsmall_any _ _ _).mono ?_; rintro e w1 ⟨rfl, hb1⟩; have hz1 : w.heap.size + 2 ≤ w1.heap.size := (by have h := hb1.size; (try simp at h); omega); have hbb := Below.mono hb1 (B' := w.heap.size + 2) (by (try simp) <;> omega); clear hb1; have hcc := fun o => hbb.cell (p := ⟨w.heap.size, o, none⟩) (by (try simp) <;> omega); have hff := fun o => hbb.frozen (p := ⟨w.heap.size, o, none⟩) (by (try simp) <;> omega); with_reducible apply cell_in (w := w1) (p := ⟨w.heap.size, 0, none⟩); (focus (rw [hcc]; go_simp; try (exact rfl))); intro cc; with_reducible apply cell_in (w := w1) (p := ⟨w.heap.size, 1, none⟩); (focus (rw [hcc]; go_simp; try (exact rfl))); intro cc; have fz : (∀ o, w1.frozen? ⟨w.heap.size, o, none⟩ = false) := (by intro o; rw [hff]; go_simp); have hl : w.heap.size < w1.heap.size ∧ w.heap.size < w1.heap.size + 1 ∧ w.heap.size < w1.heap.size + 1 + 1 ∧ w.heap.size < w1.heap.size + 1 + 1 + 1 := (by omega); clear hcc hff; have hcc := fun o => hbb.cell (p := ⟨w.heap.size + 1, o, none⟩) (by (try simp) <;> omega); have hff := fun o => hbb.frozen (p := ⟨w.heap.size + 1, o, none⟩) (by (try simp) <;> omega); with_reducible apply cell_in (w := w1) (p := ⟨w.heap.size + 1, 0, none⟩); (focus (rw [hcc]; go_simp; try (exact rfl))); intro cc; with_reducible apply cell_in (w := w1) (p := ⟨w.heap.size + 1, 1, none⟩); (focus (rw [hcc]; go_simp; try (exact rfl))); intro cc; have fz : (∀ o, w1.frozen? ⟨w.heap.size + 1, o, none⟩ = false) := (by intro o; rw [hff]; go_simp); have hl : w.heap.size + 1 < w1.heap.size ∧ w.heap.size + 1 < w1.heap.size + 1 ∧ w.heap.size + 1 < w1.heap.size + 1 + 1 ∧ w.heap.size + 1 < w1.heap.size + 1 + 1 + 1 := (by omega); clear hcc hff))
      refine bodyPost_ret (v := .agg #[.int .i64 0, .int .i64 0]) (by simp only [results, Try.results56]; go_simp) rfl ⟨?_, ?_⟩
      · rfl
      · (repeat (first | (with_reducible exact Below.refl _ _) | (with_reducible refine Below.setCell ?_ ?_ _) | (with_reducible refine Below.alloc ?_ ?_ _) | (with_reducible refine Below.drew ?_) | (with_reducible refine Below.trans ?_ (Below.mono (by assumption) ?_)) | (with_reducible refine Own.below (by assumption) ?_ ?_))) <;> (first | omega | (simp; done) | (simp <;> omega))
    · rw [if_pos ⟨rfl, hz⟩]
      have hz2 : a = 0 → ¬ b = 0 := fun h h' => hz ⟨h, h'⟩
      obtain ⟨q1, q2, q3, q4⟩ := small_bd h1
      obtain ⟨G, hG⟩ : ∃ G, G = Nat.gcd a.natAbs b.natAbs := ⟨_, rfl⟩
      have hG0 : 0 < G := by rw [hG]; exact Nat.pos_of_ne_zero (fun h => hz (by rw [Nat.gcd_eq_zero_iff] at h; omega))
      rw [← hG]
      have HG := Lib.hid hG
      have mx1 := max_neg a
      have mx2 := max_neg b
      have na : a.natAbs ≤ 1073741824 := by omega
      have nb : b.natAbs ≤ 1073741824 := by omega
      clear hG
      go_enter Try.func56, Try.ntmps56; (try simp only [List.append_eq, List.cons_append, List.nil_append])
      go_wp2_with (first | (go_at_call 45; refine (vsmall_any _ _ _).mono ?_; rintro e w1 ⟨rfl, hb1⟩; have hz1 : w.heap.size + 2 ≤ w1.heap.size := (by have h := hb1.size; (try simp at h); omega); have hbb := Below.mono hb1 (B' := w.heap.size + 2) (by (try simp) <;> omega); clear hb1; have hcc := fun o => hbb.cell (p := ⟨w.heap.size, o, none⟩) (by (try simp) <;> omega); have hff := fun o => hbb.frozen (p := ⟨w.heap.size, o, none⟩) (by (try simp) <;> omega); with_reducible apply cell_in (w := w1) (p := ⟨w.heap.size, 0, none⟩); (focus (rw [hcc]; go_simp; try (exact rfl))); intro cc; with_reducible apply cell_in (w := w1) (p := ⟨w.heap.size, 1, none⟩); (focus (rw [hcc]; go_simp; try (exact rfl))); intro cc; have fz : (∀ o, w1.frozen? ⟨w.heap.size, o, none⟩ = false) := (by intro o; rw [hff]; go_simp); have hl : w.heap.size < w1.heap.size ∧ w.heap.size < w1.heap.size + 1 ∧ w.heap.size < w1.heap.size + 1 + 1 ∧ w.heap.size < w1.heap.size + 1 + 1 + 1 := (by omega); clear hcc hff; have hcc := fun o => hbb.cell (p := ⟨w.heap.size + 1, o, none⟩) (by (try simp) <;> omega); have hff := fun o => hbb.frozen (p := ⟨w.heap.size + 1, o, none⟩) (by (try simp) <;> omega); with_reducible apply cell_in (w := w1) (p := ⟨w.heap.size + 1, 0, none⟩); (focus (rw [hcc]; go_simp; try (exact rfl))); intro cc; with_reducible apply cell_in (w := w1) (p := ⟨w.heap.size + 1, 1, none⟩); (focus (rw [hcc]; go_simp; try (exact rfl))); intro cc; have fz : (∀ o, w1.frozen? ⟨w.heap.size + 1, o, none⟩ = false) := (by intro o; rw [hff]; go_simp); have hl : w.heap.size + 1 < w1.heap.size ∧ w.heap.size + 1 < w1.heap.size + 1 ∧ w.heap.size + 1 < w1.heap.size + 1 + 1 ∧ w.heap.size + 1 < w1.heap.size + 1 + 1 + 1 := (by omega); clear hcc hff))
      all_goals
        clear hz hz2
        try (rename a = 0 => ha; clear ha)
        try (rename ¬ a = 0 => ha; clear ha)
        try (rename ¬ b = 0 => ha; clear ha)
        -- own blocks: w.heap.size:2, w.heap.size + 1:2
        (refine pin_wp (N := _) (Nat.le_refl _) (fun w5 hb_w5 hz_w5 => ?_); (try simp at hz_w5); have hcc := fun o => hb_w5.cell (p := ⟨w.heap.size, o, none⟩) (by (try simp) <;> omega); have hff := fun o => hb_w5.frozen (p := ⟨w.heap.size, o, none⟩) (by (try simp) <;> omega); with_reducible apply cell_in (w := w5) (p := ⟨w.heap.size, 0, none⟩); (focus (rw [hcc]; go_simp; try (exact rfl))); intro cc; with_reducible apply cell_in (w := w5) (p := ⟨w.heap.size, 1, none⟩); (focus (rw [hcc]; go_simp; try (exact rfl))); intro cc; have fz : (∀ o, w5.frozen? ⟨w.heap.size, o, none⟩ = false) := (by intro o; rw [hff]; go_simp); have hl : w.heap.size < w5.heap.size ∧ w.heap.size < w5.heap.size + 1 ∧ w.heap.size < w5.heap.size + 1 + 1 ∧ w.heap.size < w5.heap.size + 1 + 1 + 1 := (by omega); clear hcc hff; have hcc := fun o => hb_w5.cell (p := ⟨w.heap.size + 1, o, none⟩) (by (try simp) <;> omega); have hff := fun o => hb_w5.frozen (p := ⟨w.heap.size + 1, o, none⟩) (by (try simp) <;> omega); with_reducible apply cell_in (w := w5) (p := ⟨w.heap.size + 1, 0, none⟩); (focus (rw [hcc]; go_simp; try (exact rfl))); intro cc; with_reducible apply cell_in (w := w5) (p := ⟨w.heap.size + 1, 1, none⟩); (focus (rw [hcc]; go_simp; try (exact rfl))); intro cc; have fz : (∀ o, w5.frozen? ⟨w.heap.size + 1, o, none⟩ = false) := (by intro o; rw [hff]; go_simp); have hl : w.heap.size + 1 < w5.heap.size ∧ w.heap.size + 1 < w5.heap.size + 1 ∧ w.heap.size + 1 < w5.heap.size + 1 + 1 ∧ w.heap.size + 1 < w5.heap.size + 1 + 1 + 1 := (by omega); clear hcc hff); refine wp_region_warm (Own w5.heap.size w5) (by kernel_rfl) (by kernel_rfl) (Own.refl (Nat.le_refl _)).drew ?_
        repeat (first | (refine wpWarm_step_off rfl (fun K hK => ?_); (go_simp; refine hK _ ?_; clear hK K)) | (apply wpWarm_step rfl; (focus (intro W' hS; have hcS := hS.cells.1; have hfS := hS.cells.2; go_simp; (first | done | exact rfl | exact ⟨rfl, hS⟩ | (go_simp; exact rfl)))); (intro K hK; go_simp; (try go_bits); refine hK _ ?_; clear hK K)) | (apply wpWarm_step_on rfl; (focus (intro W' hS; have hcS := hS.cells.1; have hfS := hS.cells.2; go_simp; (first | done | exact rfl | exact ⟨rfl, hS⟩ | (go_simp; exact rfl)))); (intro K hK; go_simp; (try go_bits); refine hK _ ?_; clear hK K)))
        (refine wpWarm_nil ?_; intro w6 hO; have hz_w6 := hO.1; have hb_w6 := hO.2; clear hO; have hcc := fun o => hb_w6.cell (p := ⟨w.heap.size, o, none⟩) (by (try simp) <;> omega); have hff := fun o => hb_w6.frozen (p := ⟨w.heap.size, o, none⟩) (by (try simp) <;> omega); with_reducible apply cell_in (w := w6) (p := ⟨w.heap.size, 0, none⟩); (focus (rw [hcc]; go_simp; try (exact rfl))); intro cc; with_reducible apply cell_in (w := w6) (p := ⟨w.heap.size, 1, none⟩); (focus (rw [hcc]; go_simp; try (exact rfl))); intro cc; have fz : (∀ o, w6.frozen? ⟨w.heap.size, o, none⟩ = false) := (by intro o; rw [hff]; go_simp); have hl : w.heap.size < w6.heap.size ∧ w.heap.size < w6.heap.size + 1 ∧ w.heap.size < w6.heap.size + 1 + 1 ∧ w.heap.size < w6.heap.size + 1 + 1 + 1 := (by omega); clear hcc hff; have hcc := fun o => hb_w6.cell (p := ⟨w.heap.size + 1, o, none⟩) (by (try simp) <;> omega); have hff := fun o => hb_w6.frozen (p := ⟨w.heap.size + 1, o, none⟩) (by (try simp) <;> omega); with_reducible apply cell_in (w := w6) (p := ⟨w.heap.size + 1, 0, none⟩); (focus (rw [hcc]; go_simp; try (exact rfl))); intro cc; with_reducible apply cell_in (w := w6) (p := ⟨w.heap.size + 1, 1, none⟩); (focus (rw [hcc]; go_simp; try (exact rfl))); intro cc; have fz : (∀ o, w6.frozen? ⟨w.heap.size + 1, o, none⟩ = false) := (by intro o; rw [hff]; go_simp); have hl : w.heap.size + 1 < w6.heap.size ∧ w.heap.size + 1 < w6.heap.size + 1 ∧ w.heap.size + 1 < w6.heap.size + 1 + 1 ∧ w.heap.size + 1 < w6.heap.size + 1 + 1 + 1 := (by omega); clear hcc hff)
        clear mx1 mx2
        go_wp2_with fail
        go_loopw [3, 4] (fun vg vh wr => ∃ g h : Int, vg = .int .i64 g ∧ vh = .int .i64 h ∧ 0 ≤ g ∧ g ≤ 1073741824 ∧ 0 ≤ h ∧ h ≤ 1073741824 ∧ Hid (Int.gcd g h = G) ∧ Below w6.heap.size w6 wr) (fun _ vh _ => (intOf vh).toNat)
        case atStart => exact ⟨_, _, rfl, rfl, by omega, by omega, by omega, by omega, Lib.hid HG.out.symm, Below.refl _ _⟩
        case round =>
          obtain ⟨g, h, rfl, rfl, g0, g1, h0, h1', HC, hb_wr⟩ := hrel
          have hz_wr := hb_wr.size
          by_cases hh : 0 < h
          · have HB := Lib.hid hb_wr
            have HC' := Lib.hid (gcd_step g0 hh HC.out)
            obtain ⟨r, hr⟩ : ∃ r, r = g % h := ⟨_, rfl⟩
            have n0 : (h == 0) = false := by rw [beq_eq_false_iff_ne]; omega
            have n1 : ¬ (h = 0) := by omega
            have r0 : 0 ≤ r := by rw [hr]; exact Int.emod_nonneg _ n1
            have r1 : r < h := by rw [hr]; exact Int.emod_lt_of_pos _ hh
            have q2 : g.tmod h = r := by rw [hr]; exact Int.tmod_eq_emod_of_nonneg g0
            have q3 : g % h = r := hr.symm
            rw [← hr] at HC'
            clear hb_wr hr
            go_wp2_with fail
            refine wp_region_warm (Own wr.heap.size wr) (by kernel_rfl) (by kernel_rfl) (Own.refl (Nat.le_refl _)).drew ?_
            repeat (first | (refine wpWarm_step_off rfl (fun K hK => ?_); (go_simp; refine hK _ ?_; clear hK K)) | (apply wpWarm_step rfl; (focus (intro W' hS; have hcS := hS.cells.1; have hfS := hS.cells.2; go_simp; (first | done | exact rfl | exact ⟨rfl, hS⟩ | (go_simp; exact rfl)))); (intro K hK; go_simp; (try go_bits); refine hK _ ?_; clear hK K)) | (apply wpWarm_step_on rfl; (focus (intro W' hS; have hcS := hS.cells.1; have hfS := hS.cells.2; go_simp; (first | done | exact rfl | exact ⟨rfl, hS⟩ | (go_simp; exact rfl)))); (intro K hK; go_simp; (try go_bits); refine hK _ ?_; clear hK K)))
            refine wpWarm_nil ?_
            intro w7 hO7
            have HB7 := Lib.hid (HB.out.trans (hO7.2.mono hz_wr))
            clear hO7 q2 q3 n0 n1
            go_wp2_with fail
            go_roundw
            case rel => exact ⟨h, r, rfl, rfl, h0, h1', r0, by omega, HC', HB7.out⟩
            case measure => simp [intOf]; omega
          · obtain rfl : h = 0 := by omega
            have hgG : g = G := by have := HC.out; rw [Int.gcd_zero_right] at this; omega
            have n0 : (g == 0) = false := by rw [beq_eq_false_iff_ne]; omega
            have n1 : ¬ (g = 0) := by omega
            obtain ⟨t1, t2⟩ := tdiv_bd G q1 q2
            obtain ⟨t3, t4⟩ := tdiv_bd G q3 q4
            rw [← hgG] at t1 t2 t3 t4
            obtain ⟨T1, hT1⟩ : ∃ T1, T1 = a.tdiv g := ⟨_, rfl⟩
            obtain ⟨T2, hT2⟩ : ∃ T2, T2 = b.tdiv g := ⟨_, rfl⟩
            rw [← hT1] at t1 t2
            rw [← hT2] at t3 t4
            have hd1 := hT1.symm
            have hd2 := hT2.symm
            have HT := Lib.hid (show T1 = a.tdiv G ∧ T2 = b.tdiv G by rw [← hgG]; exact ⟨hT1, hT2⟩)
            clear hT1 hT2 hgG
            have hcc := fun o => hb_wr.cell (p := ⟨w.heap.size, o, none⟩) (by (try simp) <;> omega); have hff := fun o => hb_wr.frozen (p := ⟨w.heap.size, o, none⟩) (by (try simp) <;> omega); with_reducible apply cell_in (w := wr) (p := ⟨w.heap.size, 0, none⟩); (focus (rw [hcc]; go_simp; try (exact rfl))); intro cc; with_reducible apply cell_in (w := wr) (p := ⟨w.heap.size, 1, none⟩); (focus (rw [hcc]; go_simp; try (exact rfl))); intro cc; have fz : (∀ o, wr.frozen? ⟨w.heap.size, o, none⟩ = false) := (by intro o; rw [hff]; go_simp); have hl : w.heap.size < wr.heap.size ∧ w.heap.size < wr.heap.size + 1 ∧ w.heap.size < wr.heap.size + 1 + 1 ∧ w.heap.size < wr.heap.size + 1 + 1 + 1 := (by omega); clear hcc hff; have hcc := fun o => hb_wr.cell (p := ⟨w.heap.size + 1, o, none⟩) (by (try simp) <;> omega); have hff := fun o => hb_wr.frozen (p := ⟨w.heap.size + 1, o, none⟩) (by (try simp) <;> omega); with_reducible apply cell_in (w := wr) (p := ⟨w.heap.size + 1, 0, none⟩); (focus (rw [hcc]; go_simp; try (exact rfl))); intro cc; with_reducible apply cell_in (w := wr) (p := ⟨w.heap.size + 1, 1, none⟩); (focus (rw [hcc]; go_simp; try (exact rfl))); intro cc; have fz : (∀ o, wr.frozen? ⟨w.heap.size + 1, o, none⟩ = false) := (by intro o; rw [hff]; go_simp); have hl : w.heap.size + 1 < wr.heap.size ∧ w.heap.size + 1 < wr.heap.size + 1 ∧ w.heap.size + 1 < wr.heap.size + 1 + 1 ∧ w.heap.size + 1 < wr.heap.size + 1 + 1 + 1 := (by omega); clear hcc hff
            go_wp2_with fail
            (refine pin_wp (N := _) (Nat.le_refl _) (fun w7 hb_w7 hz_w7 => ?_); (try simp at hz_w7); have hcc := fun o => hb_w7.cell (p := ⟨w.heap.size, o, none⟩) (by (try simp) <;> omega); have hff := fun o => hb_w7.frozen (p := ⟨w.heap.size, o, none⟩) (by (try simp) <;> omega); with_reducible apply cell_in (w := w7) (p := ⟨w.heap.size, 0, none⟩); (focus (rw [hcc]; go_simp; try (exact rfl))); intro cc; with_reducible apply cell_in (w := w7) (p := ⟨w.heap.size, 1, none⟩); (focus (rw [hcc]; go_simp; try (exact rfl))); intro cc; have fz : (∀ o, w7.frozen? ⟨w.heap.size, o, none⟩ = false) := (by intro o; rw [hff]; go_simp); have hl : w.heap.size < w7.heap.size ∧ w.heap.size < w7.heap.size + 1 ∧ w.heap.size < w7.heap.size + 1 + 1 ∧ w.heap.size < w7.heap.size + 1 + 1 + 1 := (by omega); clear hcc hff; have hcc := fun o => hb_w7.cell (p := ⟨w.heap.size + 1, o, none⟩) (by (try simp) <;> omega); have hff := fun o => hb_w7.frozen (p := ⟨w.heap.size + 1, o, none⟩) (by (try simp) <;> omega); with_reducible apply cell_in (w := w7) (p := ⟨w.heap.size + 1, 0, none⟩); (focus (rw [hcc]; go_simp; try (exact rfl))); intro cc; with_reducible apply cell_in (w := w7) (p := ⟨w.heap.size + 1, 1, none⟩); (focus (rw [hcc]; go_simp; try (exact rfl))); intro cc; have fz : (∀ o, w7.frozen? ⟨w.heap.size + 1, o, none⟩ = false) := (by intro o; rw [hff]; go_simp); have hl : w.heap.size + 1 < w7.heap.size ∧ w.heap.size + 1 < w7.heap.size + 1 ∧ w.heap.size + 1 < w7.heap.size + 1 + 1 ∧ w.heap.size + 1 < w7.heap.size + 1 + 1 + 1 := (by omega); clear hcc hff); refine wp_region_warm_tail (Own w7.heap.size w7) 9 (by kernel_rfl) (by kernel_rfl) (Own.refl (Nat.le_refl _)).drew ?_; simp only [List.take_succ_cons, List.take_zero, List.drop_succ_cons, List.drop_zero]
            repeat (first | (refine wpWarm_step_off rfl (fun K hK => ?_); (go_simp; refine hK _ ?_; clear hK K)) | (apply wpWarm_step rfl; (focus (intro W' hS; have hcS := hS.cells.1; have hfS := hS.cells.2; go_simp; (first | done | exact rfl | exact ⟨rfl, hS⟩ | (go_simp; exact rfl)))); (intro K hK; go_simp; (try go_bits); refine hK _ ?_; clear hK K)) | (apply wpWarm_step_on rfl; (focus (intro W' hS; have hcS := hS.cells.1; have hfS := hS.cells.2; go_simp; (first | done | exact rfl | exact ⟨rfl, hS⟩ | (go_simp; exact rfl)))); (intro K hK; go_simp; (try go_bits); refine hK _ ?_; clear hK K)))
            (refine wpWarm_nil ?_; intro w8 hO; have hz_w8 := hO.1; have hb_w8 := hO.2; clear hO; have hcc := fun o => hb_w8.cell (p := ⟨w.heap.size, o, none⟩) (by (try simp) <;> omega); have hff := fun o => hb_w8.frozen (p := ⟨w.heap.size, o, none⟩) (by (try simp) <;> omega); with_reducible apply cell_in (w := w8) (p := ⟨w.heap.size, 0, none⟩); (focus (rw [hcc]; go_simp; try (exact rfl))); intro cc; with_reducible apply cell_in (w := w8) (p := ⟨w.heap.size, 1, none⟩); (focus (rw [hcc]; go_simp; try (exact rfl))); intro cc; have fz : (∀ o, w8.frozen? ⟨w.heap.size, o, none⟩ = false) := (by intro o; rw [hff]; go_simp); have hl : w.heap.size < w8.heap.size ∧ w.heap.size < w8.heap.size + 1 ∧ w.heap.size < w8.heap.size + 1 + 1 ∧ w.heap.size < w8.heap.size + 1 + 1 + 1 := (by omega); clear hcc hff; have hcc := fun o => hb_w8.cell (p := ⟨w.heap.size + 1, o, none⟩) (by (try simp) <;> omega); have hff := fun o => hb_w8.frozen (p := ⟨w.heap.size + 1, o, none⟩) (by (try simp) <;> omega); with_reducible apply cell_in (w := w8) (p := ⟨w.heap.size + 1, 0, none⟩); (focus (rw [hcc]; go_simp; try (exact rfl))); intro cc; with_reducible apply cell_in (w := w8) (p := ⟨w.heap.size + 1, 1, none⟩); (focus (rw [hcc]; go_simp; try (exact rfl))); intro cc; have fz : (∀ o, w8.frozen? ⟨w.heap.size + 1, o, none⟩ = false) := (by intro o; rw [hff]; go_simp); have hl : w.heap.size + 1 < w8.heap.size ∧ w.heap.size + 1 < w8.heap.size + 1 ∧ w.heap.size + 1 < w8.heap.size + 1 + 1 ∧ w.heap.size + 1 < w8.heap.size + 1 + 1 + 1 := (by omega); clear hcc hff)
            clear hd1 hd2
            go_wp2_with fail
            refine bodyPost_ret (v := .agg #[.int .i64 T1, .int .i64 T2]) (by simp only [results, Try.results56]; go_simp) rfl ⟨?_, ?_⟩
            · rw [HT.out.1, HT.out.2]
            · (repeat (first | (with_reducible exact Below.refl _ _) | (with_reducible refine Below.setCell ?_ ?_ _) | (with_reducible refine Below.alloc ?_ ?_ _) | (with_reducible refine Below.drew ?_) | (with_reducible refine Below.trans ?_ (Below.mono (by assumption) ?_)) | (with_reducible refine Own.below (by assumption) ?_ ?_))) <;> (first | omega | (simp; done) | (simp <;> omega))
set_option maxHeartbeats 1000000 in
theorem rreduce_any (a b : Int) (w : World) :
    Calls Try.prog 57 #[.agg #[.int .i64 a, .int .i64 b]] w fun e w' => e = .returned (.agg #[.int .i64 (reduceR a b).1, .int .i64 (reduceR a b).2]) ∧ Below w.heap.size w w' := by
  unfold reduceR
  cases h1 : smallB a b
  · rw [if_neg (fun h => by cases h.1)]
    go_enter Try.func57, Try.ntmps57; (try simp only [List.append_eq, List.cons_append, List.nil_append])
    go_wp2_with (first | (go_at_call 36; refine (rsmall_any _ _ _).mono ?_; rintro e w1 ⟨rfl, hb1⟩; have hz1 : w.heap.size + 2 ≤ w1.heap.size := (by have h := hb1.size; (try simp at h); omega); have hbb := Below.mono hb1 (B' := w.heap.size + 2) (by (try simp) <;> omega); clear hb1; have hcc := fun o => hbb.cell (p := ⟨w.heap.size, o, none⟩) (by (try simp) <;> omega); have hff := fun o => hbb.frozen (p := ⟨w.heap.size, o, none⟩) (by (try simp) <;> omega); with_reducible apply cell_in (w := w1) (p := ⟨w.heap.size, 0, none⟩); (focus (rw [hcc]; go_simp; try (exact rfl))); intro cc; with_reducible apply cell_in (w := w1) (p := ⟨w.heap.size, 1, none⟩); (focus (rw [hcc]; go_simp; try (exact rfl))); intro cc; have fz : (∀ o, w1.frozen? ⟨w.heap.size, o, none⟩ = false) := (by intro o; rw [hff]; go_simp); have hl : w.heap.size < w1.heap.size ∧ w.heap.size < w1.heap.size + 1 ∧ w.heap.size < w1.heap.size + 1 + 1 ∧ w.heap.size < w1.heap.size + 1 + 1 + 1 := (by omega); clear hcc hff; have hcc := fun o => hbb.cell (p := ⟨w.heap.size + 1, o, none⟩) (by (try simp) <;> omega); have hff := fun o => hbb.frozen (p := ⟨w.heap.size + 1, o, none⟩) (by (try simp) <;> omega); with_reducible apply cell_in (w := w1) (p := ⟨w.heap.size + 1, 0, none⟩); (focus (rw [hcc]; go_simp; try (exact rfl))); intro cc; with_reducible apply cell_in (w := w1) (p := ⟨w.heap.size + 1, 1, none⟩); (focus (rw [hcc]; go_simp; try (exact rfl))); intro cc; have fz : (∀ o, w1.frozen? ⟨w.heap.size + 1, o, none⟩ = false) := (by intro o; rw [hff]; go_simp); have hl : w.heap.size + 1 < w1.heap.size ∧ w.heap.size + 1 < w1.heap.size + 1 ∧ w.heap.size + 1 < w1.heap.size + 1 + 1 ∧ w.heap.size + 1 < w1.heap.size + 1 + 1 + 1 := (by omega); clear hcc hff))
    refine bodyPost_ret (v := .agg #[.int .i64 0, .int .i64 0]) (by simp only [results, Try.results57]; go_simp) rfl ⟨?_, ?_⟩
    · rfl
    · (repeat (first | (with_reducible exact Below.refl _ _) | (with_reducible refine Below.setCell ?_ ?_ _) | (with_reducible refine Below.alloc ?_ ?_ _) | (with_reducible refine Below.drew ?_) | (with_reducible refine Below.trans ?_ (Below.mono (by assumption) ?_)) | (with_reducible refine Own.below (by assumption) ?_ ?_))) <;> (first | omega | (simp; done) | (simp <;> omega))
  · by_cases hz : a = 0 ∧ b = 0
    · obtain ⟨rfl, rfl⟩ := hz
      rw [if_neg (fun h => h.2 ⟨rfl, rfl⟩)]
      go_enter Try.func57, Try.ntmps57; (try simp only [List.append_eq, List.cons_append, List.nil_append])
      go_wp2_with (first | (go_at_call 36; refine (rsmall_any _ _ _).mono ?_; rintro e w1 ⟨rfl, hb1⟩; have hz1 : w.heap.size + 2 ≤ w1.heap.size := (by have h := hb1.size; (try simp at h); omega); have hbb := Below.mono hb1 (B' := w.heap.size + 2) (by (try simp) <;> omega); clear hb1; have hcc := fun o => hbb.cell (p := ⟨w.heap.size, o, none⟩) (by (try simp) <;> omega); have hff := fun o => hbb.frozen (p := ⟨w.heap.size, o, none⟩) (by (try simp) <;> omega); with_reducible apply cell_in (w := w1) (p := ⟨w.heap.size, 0, none⟩); (focus (rw [hcc]; go_simp; try (exact rfl))); intro cc; with_reducible apply cell_in (w := w1) (p := ⟨w.heap.size, 1, none⟩); (focus (rw [hcc]; go_simp; try (exact rfl))); intro cc; have fz : (∀ o, w1.frozen? ⟨w.heap.size, o, none⟩ = false) := (by intro o; rw [hff]; go_simp); have hl : w.heap.size < w1.heap.size ∧ w.heap.size < w1.heap.size + 1 ∧ w.heap.size < w1.heap.size + 1 + 1 ∧ w.heap.size < w1.heap.size + 1 + 1 + 1 := (by omega); clear hcc hff; have hcc := fun o => hbb.cell (p := ⟨w.heap.size + 1, o, none⟩) (by (try simp) <;> omega); have hff := fun o => hbb.frozen (p := ⟨w.heap.size + 1, o, none⟩) (by (try simp) <;> omega); with_reducible apply cell_in (w := w1) (p := ⟨w.heap.size + 1, 0, none⟩); (focus (rw [hcc]; go_simp; try (exact rfl))); intro cc; with_reducible apply cell_in (w := w1) (p := ⟨w.heap.size + 1, 1, none⟩); (focus (rw [hcc]; go_simp; try (exact rfl))); intro cc; have fz : (∀ o, w1.frozen? ⟨w.heap.size + 1, o, none⟩ = false) := (by intro o; rw [hff]; go_simp); have hl : w.heap.size + 1 < w1.heap.size ∧ w.heap.size + 1 < w1.heap.size + 1 ∧ w.heap.size + 1 < w1.heap.size + 1 + 1 ∧ w.heap.size + 1 < w1.heap.size + 1 + 1 + 1 := (by omega); clear hcc hff))
      refine bodyPost_ret (v := .agg #[.int .i64 0, .int .i64 0]) (by simp only [results, Try.results57]; go_simp) rfl ⟨?_, ?_⟩
      · rfl
      · (repeat (first | (with_reducible exact Below.refl _ _) | (with_reducible refine Below.setCell ?_ ?_ _) | (with_reducible refine Below.alloc ?_ ?_ _) | (with_reducible refine Below.drew ?_) | (with_reducible refine Below.trans ?_ (Below.mono (by assumption) ?_)) | (with_reducible refine Own.below (by assumption) ?_ ?_))) <;> (first | omega | (simp; done) | (simp <;> omega))
    · rw [if_pos ⟨rfl, hz⟩]
      have hz2 : a = 0 → ¬ b = 0 := fun h h' => hz ⟨h, h'⟩
      obtain ⟨q1, q2, q3, q4⟩ := small_bd h1
      obtain ⟨G, hG⟩ : ∃ G, G = Nat.gcd a.natAbs b.natAbs := ⟨_, rfl⟩
      have hG0 : 0 < G := by rw [hG]; exact Nat.pos_of_ne_zero (fun h => hz (by rw [Nat.gcd_eq_zero_iff] at h; omega))
      rw [← hG]
      have HG := Lib.hid hG
      have mx1 := max_neg a
      have mx2 := max_neg b
      have na : a.natAbs ≤ 1073741824 := by omega
      have nb : b.natAbs ≤ 1073741824 := by omega
      clear hG
      go_enter Try.func57, Try.ntmps57; (try simp only [List.append_eq, List.cons_append, List.nil_append])
      go_wp2_with (first | (go_at_call 36; refine (rsmall_any _ _ _).mono ?_; rintro e w1 ⟨rfl, hb1⟩; have hz1 : w.heap.size + 2 ≤ w1.heap.size := (by have h := hb1.size; (try simp at h); omega); have hbb := Below.mono hb1 (B' := w.heap.size + 2) (by (try simp) <;> omega); clear hb1; have hcc := fun o => hbb.cell (p := ⟨w.heap.size, o, none⟩) (by (try simp) <;> omega); have hff := fun o => hbb.frozen (p := ⟨w.heap.size, o, none⟩) (by (try simp) <;> omega); with_reducible apply cell_in (w := w1) (p := ⟨w.heap.size, 0, none⟩); (focus (rw [hcc]; go_simp; try (exact rfl))); intro cc; with_reducible apply cell_in (w := w1) (p := ⟨w.heap.size, 1, none⟩); (focus (rw [hcc]; go_simp; try (exact rfl))); intro cc; have fz : (∀ o, w1.frozen? ⟨w.heap.size, o, none⟩ = false) := (by intro o; rw [hff]; go_simp); have hl : w.heap.size < w1.heap.size ∧ w.heap.size < w1.heap.size + 1 ∧ w.heap.size < w1.heap.size + 1 + 1 ∧ w.heap.size < w1.heap.size + 1 + 1 + 1 := (by omega); clear hcc hff; have hcc := fun o => hbb.cell (p := ⟨w.heap.size + 1, o, none⟩) (by (try simp) <;> omega); have hff := fun o => hbb.frozen (p := ⟨w.heap.size + 1, o, none⟩) (by (try simp) <;> omega); with_reducible apply cell_in (w := w1) (p := ⟨w.heap.size + 1, 0, none⟩); (focus (rw [hcc]; go_simp; try (exact rfl))); intro cc; with_reducible apply cell_in (w := w1) (p := ⟨w.heap.size + 1, 1, none⟩); (focus (rw [hcc]; go_simp; try (exact rfl))); intro cc; have fz : (∀ o, w1.frozen? ⟨w.heap.size + 1, o, none⟩ = false) := (by intro o; rw [hff]; go_simp); have hl : w.heap.size + 1 < w1.heap.size ∧ w.heap.size + 1 < w1.heap.size + 1 ∧ w.heap.size + 1 < w1.heap.size + 1 + 1 ∧ w.heap.size + 1 < w1.heap.size + 1 + 1 + 1 := (by omega); clear hcc hff))
      all_goals
        clear hz hz2
        try (rename a = 0 => ha; clear ha)
        try (rename ¬ a = 0 => ha; clear ha)
        try (rename ¬ b = 0 => ha; clear ha)
        -- own blocks: w.heap.size:2, w.heap.size + 1:2
        (refine pin_wp (N := _) (Nat.le_refl _) (fun w5 hb_w5 hz_w5 => ?_); (try simp at hz_w5); have hcc := fun o => hb_w5.cell (p := ⟨w.heap.size, o, none⟩) (by (try simp) <;> omega); have hff := fun o => hb_w5.frozen (p := ⟨w.heap.size, o, none⟩) (by (try simp) <;> omega); with_reducible apply cell_in (w := w5) (p := ⟨w.heap.size, 0, none⟩); (focus (rw [hcc]; go_simp; try (exact rfl))); intro cc; with_reducible apply cell_in (w := w5) (p := ⟨w.heap.size, 1, none⟩); (focus (rw [hcc]; go_simp; try (exact rfl))); intro cc; have fz : (∀ o, w5.frozen? ⟨w.heap.size, o, none⟩ = false) := (by intro o; rw [hff]; go_simp); have hl : w.heap.size < w5.heap.size ∧ w.heap.size < w5.heap.size + 1 ∧ w.heap.size < w5.heap.size + 1 + 1 ∧ w.heap.size < w5.heap.size + 1 + 1 + 1 := (by omega); clear hcc hff; have hcc := fun o => hb_w5.cell (p := ⟨w.heap.size + 1, o, none⟩) (by (try simp) <;> omega); have hff := fun o => hb_w5.frozen (p := ⟨w.heap.size + 1, o, none⟩) (by (try simp) <;> omega); with_reducible apply cell_in (w := w5) (p := ⟨w.heap.size + 1, 0, none⟩); (focus (rw [hcc]; go_simp; try (exact rfl))); intro cc; with_reducible apply cell_in (w := w5) (p := ⟨w.heap.size + 1, 1, none⟩); (focus (rw [hcc]; go_simp; try (exact rfl))); intro cc; have fz : (∀ o, w5.frozen? ⟨w.heap.size + 1, o, none⟩ = false) := (by intro o; rw [hff]; go_simp); have hl : w.heap.size + 1 < w5.heap.size ∧ w.heap.size + 1 < w5.heap.size + 1 ∧ w.heap.size + 1 < w5.heap.size + 1 + 1 ∧ w.heap.size + 1 < w5.heap.size + 1 + 1 + 1 := (by omega); clear hcc hff); refine wp_region_warm (Own w5.heap.size w5) (by kernel_rfl) (by kernel_rfl) (Own.refl (Nat.le_refl _)).drew ?_
        repeat (first | (refine wpWarm_step_off rfl (fun K hK => ?_); (go_simp; refine hK _ ?_; clear hK K)) | (apply wpWarm_step rfl; (focus (intro W' hS; have hcS := hS.cells.1; have hfS := hS.cells.2; go_simp; (first | done | exact rfl | exact ⟨rfl, hS⟩ | (go_simp; exact rfl)))); (intro K hK; go_simp; (try go_bits); refine hK _ ?_; clear hK K)) | (apply wpWarm_step_on rfl; (focus (intro W' hS; have hcS := hS.cells.1; have hfS := hS.cells.2; go_simp; (first | done | exact rfl | exact ⟨rfl, hS⟩ | (go_simp; exact rfl)))); (intro K hK; go_simp; (try go_bits); refine hK _ ?_; clear hK K)))
        (refine wpWarm_nil ?_; intro w6 hO; have hz_w6 := hO.1; have hb_w6 := hO.2; clear hO; have hcc := fun o => hb_w6.cell (p := ⟨w.heap.size, o, none⟩) (by (try simp) <;> omega); have hff := fun o => hb_w6.frozen (p := ⟨w.heap.size, o, none⟩) (by (try simp) <;> omega); with_reducible apply cell_in (w := w6) (p := ⟨w.heap.size, 0, none⟩); (focus (rw [hcc]; go_simp; try (exact rfl))); intro cc; with_reducible apply cell_in (w := w6) (p := ⟨w.heap.size, 1, none⟩); (focus (rw [hcc]; go_simp; try (exact rfl))); intro cc; have fz : (∀ o, w6.frozen? ⟨w.heap.size, o, none⟩ = false) := (by intro o; rw [hff]; go_simp); have hl : w.heap.size < w6.heap.size ∧ w.heap.size < w6.heap.size + 1 ∧ w.heap.size < w6.heap.size + 1 + 1 ∧ w.heap.size < w6.heap.size + 1 + 1 + 1 := (by omega); clear hcc hff; have hcc := fun o => hb_w6.cell (p := ⟨w.heap.size + 1, o, none⟩) (by (try simp) <;> omega); have hff := fun o => hb_w6.frozen (p := ⟨w.heap.size + 1, o, none⟩) (by (try simp) <;> omega); with_reducible apply cell_in (w := w6) (p := ⟨w.heap.size + 1, 0, none⟩); (focus (rw [hcc]; go_simp; try (exact rfl))); intro cc; with_reducible apply cell_in (w := w6) (p := ⟨w.heap.size + 1, 1, none⟩); (focus (rw [hcc]; go_simp; try (exact rfl))); intro cc; have fz : (∀ o, w6.frozen? ⟨w.heap.size + 1, o, none⟩ = false) := (by intro o; rw [hff]; go_simp); have hl : w.heap.size + 1 < w6.heap.size ∧ w.heap.size + 1 < w6.heap.size + 1 ∧ w.heap.size + 1 < w6.heap.size + 1 + 1 ∧ w.heap.size + 1 < w6.heap.size + 1 + 1 + 1 := (by omega); clear hcc hff)
        clear mx1 mx2
        go_wp2_with fail
        go_loopw [3, 4] (fun vg vh wr => ∃ g h : Int, vg = .int .i64 g ∧ vh = .int .i64 h ∧ 0 ≤ g ∧ g ≤ 1073741824 ∧ 0 ≤ h ∧ h ≤ 1073741824 ∧ Hid (Int.gcd g h = G) ∧ Below w6.heap.size w6 wr) (fun _ vh _ => (intOf vh).toNat)
        case atStart => exact ⟨_, _, rfl, rfl, by omega, by omega, by omega, by omega, Lib.hid HG.out.symm, Below.refl _ _⟩
        case round =>
          obtain ⟨g, h, rfl, rfl, g0, g1, h0, h1', HC, hb_wr⟩ := hrel
          have hz_wr := hb_wr.size
          by_cases hh : 0 < h
          · have HB := Lib.hid hb_wr
            have HC' := Lib.hid (gcd_step g0 hh HC.out)
            obtain ⟨r, hr⟩ : ∃ r, r = g % h := ⟨_, rfl⟩
            have n0 : (h == 0) = false := by rw [beq_eq_false_iff_ne]; omega
            have n1 : ¬ (h = 0) := by omega
            have r0 : 0 ≤ r := by rw [hr]; exact Int.emod_nonneg _ n1
            have r1 : r < h := by rw [hr]; exact Int.emod_lt_of_pos _ hh
            have q2 : g.tmod h = r := by rw [hr]; exact Int.tmod_eq_emod_of_nonneg g0
            have q3 : g % h = r := hr.symm
            rw [← hr] at HC'
            clear hb_wr hr
            go_wp2_with fail
            refine wp_region_warm (Own wr.heap.size wr) (by kernel_rfl) (by kernel_rfl) (Own.refl (Nat.le_refl _)).drew ?_
            repeat (first | (refine wpWarm_step_off rfl (fun K hK => ?_); (go_simp; refine hK _ ?_; clear hK K)) | (apply wpWarm_step rfl; (focus (intro W' hS; have hcS := hS.cells.1; have hfS := hS.cells.2; go_simp; (first | done | exact rfl | exact ⟨rfl, hS⟩ | (go_simp; exact rfl)))); (intro K hK; go_simp; (try go_bits); refine hK _ ?_; clear hK K)) | (apply wpWarm_step_on rfl; (focus (intro W' hS; have hcS := hS.cells.1; have hfS := hS.cells.2; go_simp; (first | done | exact rfl | exact ⟨rfl, hS⟩ | (go_simp; exact rfl)))); (intro K hK; go_simp; (try go_bits); refine hK _ ?_; clear hK K)))
            refine wpWarm_nil ?_
            intro w7 hO7
            have HB7 := Lib.hid (HB.out.trans (hO7.2.mono hz_wr))
            clear hO7 q2 q3 n0 n1
            go_wp2_with fail
            go_roundw
            case rel => exact ⟨h, r, rfl, rfl, h0, h1', r0, by omega, HC', HB7.out⟩
            case measure => simp [intOf]; omega
          · obtain rfl : h = 0 := by omega
            have hgG : g = G := by have := HC.out; rw [Int.gcd_zero_right] at this; omega
            have n0 : (g == 0) = false := by rw [beq_eq_false_iff_ne]; omega
            have n1 : ¬ (g = 0) := by omega
            obtain ⟨t1, t2⟩ := tdiv_bd G q1 q2
            obtain ⟨t3, t4⟩ := tdiv_bd G q3 q4
            rw [← hgG] at t1 t2 t3 t4
            obtain ⟨T1, hT1⟩ : ∃ T1, T1 = a.tdiv g := ⟨_, rfl⟩
            obtain ⟨T2, hT2⟩ : ∃ T2, T2 = b.tdiv g := ⟨_, rfl⟩
            rw [← hT1] at t1 t2
            rw [← hT2] at t3 t4
            have hd1 := hT1.symm
            have hd2 := hT2.symm
            have HT := Lib.hid (show T1 = a.tdiv G ∧ T2 = b.tdiv G by rw [← hgG]; exact ⟨hT1, hT2⟩)
            clear hT1 hT2 hgG
            have hcc := fun o => hb_wr.cell (p := ⟨w.heap.size, o, none⟩) (by (try simp) <;> omega); have hff := fun o => hb_wr.frozen (p := ⟨w.heap.size, o, none⟩) (by (try simp) <;> omega); with_reducible apply cell_in (w := wr) (p := ⟨w.heap.size, 0, none⟩); (focus (rw [hcc]; go_simp; try (exact rfl))); intro cc; with_reducible apply cell_in (w := wr) (p := ⟨w.heap.size, 1, none⟩); (focus (rw [hcc]; go_simp; try (exact rfl))); intro cc; have fz : (∀ o, wr.frozen? ⟨w.heap.size, o, none⟩ = false) := (by intro o; rw [hff]; go_simp); have hl : w.heap.size < wr.heap.size ∧ w.heap.size < wr.heap.size + 1 ∧ w.heap.size < wr.heap.size + 1 + 1 ∧ w.heap.size < wr.heap.size + 1 + 1 + 1 := (by omega); clear hcc hff; have hcc := fun o => hb_wr.cell (p := ⟨w.heap.size + 1, o, none⟩) (by (try simp) <;> omega); have hff := fun o => hb_wr.frozen (p := ⟨w.heap.size + 1, o, none⟩) (by (try simp) <;> omega); with_reducible apply cell_in (w := wr) (p := ⟨w.heap.size + 1, 0, none⟩); (focus (rw [hcc]; go_simp; try (exact rfl))); intro cc; with_reducible apply cell_in (w := wr) (p := ⟨w.heap.size + 1, 1, none⟩); (focus (rw [hcc]; go_simp; try (exact rfl))); intro cc; have fz : (∀ o, wr.frozen? ⟨w.heap.size + 1, o, none⟩ = false) := (by intro o; rw [hff]; go_simp); have hl : w.heap.size + 1 < wr.heap.size ∧ w.heap.size + 1 < wr.heap.size + 1 ∧ w.heap.size + 1 < wr.heap.size + 1 + 1 ∧ w.heap.size + 1 < wr.heap.size + 1 + 1 + 1 := (by omega); clear hcc hff
            go_wp2_with fail
            (refine pin_wp (N := _) (Nat.le_refl _) (fun w7 hb_w7 hz_w7 => ?_); (try simp at hz_w7); have hcc := fun o => hb_w7.cell (p := ⟨w.heap.size, o, none⟩) (by (try simp) <;> omega); have hff := fun o => hb_w7.frozen (p := ⟨w.heap.size, o, none⟩) (by (try simp) <;> omega); with_reducible apply cell_in (w := w7) (p := ⟨w.heap.size, 0, none⟩); (focus (rw [hcc]; go_simp; try (exact rfl))); intro cc; with_reducible apply cell_in (w := w7) (p := ⟨w.heap.size, 1, none⟩); (focus (rw [hcc]; go_simp; try (exact rfl))); intro cc; have fz : (∀ o, w7.frozen? ⟨w.heap.size, o, none⟩ = false) := (by intro o; rw [hff]; go_simp); have hl : w.heap.size < w7.heap.size ∧ w.heap.size < w7.heap.size + 1 ∧ w.heap.size < w7.heap.size + 1 + 1 ∧ w.heap.size < w7.heap.size + 1 + 1 + 1 := (by omega); clear hcc hff; have hcc := fun o => hb_w7.cell (p := ⟨w.heap.size + 1, o, none⟩) (by (try simp) <;> omega); have hff := fun o => hb_w7.frozen (p := ⟨w.heap.size + 1, o, none⟩) (by (try simp) <;> omega); with_reducible apply cell_in (w := w7) (p := ⟨w.heap.size + 1, 0, none⟩); (focus (rw [hcc]; go_simp; try (exact rfl))); intro cc; with_reducible apply cell_in (w := w7) (p := ⟨w.heap.size + 1, 1, none⟩); (focus (rw [hcc]; go_simp; try (exact rfl))); intro cc; have fz : (∀ o, w7.frozen? ⟨w.heap.size + 1, o, none⟩ = false) := (by intro o; rw [hff]; go_simp); have hl : w.heap.size + 1 < w7.heap.size ∧ w.heap.size + 1 < w7.heap.size + 1 ∧ w.heap.size + 1 < w7.heap.size + 1 + 1 ∧ w.heap.size + 1 < w7.heap.size + 1 + 1 + 1 := (by omega); clear hcc hff); refine wp_region_warm_tail (Own w7.heap.size w7) 9 (by kernel_rfl) (by kernel_rfl) (Own.refl (Nat.le_refl _)).drew ?_; simp only [List.take_succ_cons, List.take_zero, List.drop_succ_cons, List.drop_zero]
            repeat (first | (refine wpWarm_step_off rfl (fun K hK => ?_); (go_simp; refine hK _ ?_; clear hK K)) | (apply wpWarm_step rfl; (focus (intro W' hS; have hcS := hS.cells.1; have hfS := hS.cells.2; go_simp; (first | done | exact rfl | exact ⟨rfl, hS⟩ | (go_simp; exact rfl)))); (intro K hK; go_simp; (try go_bits); refine hK _ ?_; clear hK K)) | (apply wpWarm_step_on rfl; (focus (intro W' hS; have hcS := hS.cells.1; have hfS := hS.cells.2; go_simp; (first | done | exact rfl | exact ⟨rfl, hS⟩ | (go_simp; exact rfl)))); (intro K hK; go_simp; (try go_bits); refine hK _ ?_; clear hK K)))
            (refine wpWarm_nil ?_; intro w8 hO; have hz_w8 := hO.1; have hb_w8 := hO.2; clear hO; have hcc := fun o => hb_w8.cell (p := ⟨w.heap.size, o, none⟩) (by (try simp) <;> omega); have hff := fun o => hb_w8.frozen (p := ⟨w.heap.size, o, none⟩) (by (try simp) <;> omega); with_reducible apply cell_in (w := w8) (p := ⟨w.heap.size, 0, none⟩); (focus (rw [hcc]; go_simp; try (exact rfl))); intro cc; with_reducible apply cell_in (w := w8) (p := ⟨w.heap.size, 1, none⟩); (focus (rw [hcc]; go_simp; try (exact rfl))); intro cc; have fz : (∀ o, w8.frozen? ⟨w.heap.size, o, none⟩ = false) := (by intro o; rw [hff]; go_simp); have hl : w.heap.size < w8.heap.size ∧ w.heap.size < w8.heap.size + 1 ∧ w.heap.size < w8.heap.size + 1 + 1 ∧ w.heap.size < w8.heap.size + 1 + 1 + 1 := (by omega); clear hcc hff; have hcc := fun o => hb_w8.cell (p := ⟨w.heap.size + 1, o, none⟩) (by (try simp) <;> omega); have hff := fun o => hb_w8.frozen (p := ⟨w.heap.size + 1, o, none⟩) (by (try simp) <;> omega); with_reducible apply cell_in (w := w8) (p := ⟨w.heap.size + 1, 0, none⟩); (focus (rw [hcc]; go_simp; try (exact rfl))); intro cc; with_reducible apply cell_in (w := w8) (p := ⟨w.heap.size + 1, 1, none⟩); (focus (rw [hcc]; go_simp; try (exact rfl))); intro cc; have fz : (∀ o, w8.frozen? ⟨w.heap.size + 1, o, none⟩ = false) := (by intro o; rw [hff]; go_simp); have hl : w.heap.size + 1 < w8.heap.size ∧ w.heap.size + 1 < w8.heap.size + 1 ∧ w.heap.size + 1 < w8.heap.size + 1 + 1 ∧ w.heap.size + 1 < w8.heap.size + 1 + 1 + 1 := (by omega); clear hcc hff)
            clear hd1 hd2
            go_wp2_with fail
            refine bodyPost_ret (v := .agg #[.int .i64 T1, .int .i64 T2]) (by simp only [results, Try.results57]; go_simp) rfl ⟨?_, ?_⟩
            · rw [HT.out.1, HT.out.2]
            · (repeat (first | (with_reducible exact Below.refl _ _) | (with_reducible refine Below.setCell ?_ ?_ _) | (with_reducible refine Below.alloc ?_ ?_ _) | (with_reducible refine Below.drew ?_) | (with_reducible refine Below.trans ?_ (Below.mono (by assumption) ?_)) | (with_reducible refine Own.below (by assumption) ?_ ?_))) <;> (first | omega | (simp; done) | (simp <;> omega))
theorem tdiv2_bd {a B : Int} (h1 : -(2 * B) ≤ a) (h2 : a ≤ 2 * B) : -B ≤ a.tdiv 2 ∧ a.tdiv 2 ≤ B := by
  rcases Int.le_total 0 a with g | g
  · rw [Int.tdiv_eq_ediv_of_nonneg g]; omega
  · have : (-a).tdiv 2 = (-a) / 2 := Int.tdiv_eq_ediv_of_nonneg (by omega)
    rw [Int.neg_tdiv] at this
    omega
theorem run_max_ints4 (w : World) (ts : Array TypeId) (t : TypeId) (x y z u : Int) : (Builtin.max_ ts t #[.int .i64 x, .int .i64 y, .int .i64 z, .int .i64 u]).run Try.prog w = .ok (.int .i64 (max (max (max x y) z) u)) w := by
  have e : ∀ a b : Int, (if b > a then b else a) = max a b := fun a b => by split <;> omega
  simp [Builtin.max_, Builtin.max2, List.foldlM, e]
attribute [local go_sem] run_max_ints4
def half10 : Nat → Int
  | 0 => 1048576
  | f + 1 => 2 * half10 f
theorem half10_bd (f : Nat) (h : f ≤ 10) : half10 f ≤ 1073741824 ∧ 0 < half10 f := by
  have : ∀ d, d + f ≤ 10 → half10 f ≤ half10 (d + f) ∧ 0 < half10 f := by
    have pos : ∀ f, 0 < half10 f := fun f => by
      induction f with
      | zero => decide
      | succ f ih => show 0 < 2 * half10 f; omega
    intro d
    induction d with
    | zero => intro _; rw [Nat.zero_add]; exact ⟨Int.le_refl _, pos f⟩
    | succ d ih =>
      intro hd
      have h1 := ih (by omega)
      have e : half10 (d + 1 + f) = 2 * half10 (d + f) := by rw [show d + 1 + f = (d + f) + 1 by omega]; rfl
      have := pos (d + f)
      omega
  have h1 := this (10 - f) (by omega)
  rw [show 10 - f + f = 10 by omega] at h1
  exact h1
theorem big_iff {a b : Int} : bigB a b = true ↔ 2097152 < max (a.natAbs : Int) (b.natAbs : Int) := by
  unfold bigB
  simp only [Bool.or_eq_true, decide_eq_true_eq]
  omega
set_option maxHeartbeats 1000000 in
theorem vhalve_any (a b : Int) (w : World) :
    Calls Try.prog 58 #[.agg #[.int .i64 a, .int .i64 b]] w fun e w' => e = .returned (.agg #[.int .i64 (halveR a b).1, .int .i64 (halveR a b).2]) ∧ Below w.heap.size w w' := by
  unfold halveR
  cases h1 : smallB a b
  · rw [if_neg (fun h => by cases h)]
    go_enter Try.func58, Try.ntmps58; (try simp only [List.append_eq, List.cons_append, List.nil_append])
    go_wp2_with (first | (go_at_call 45; refine (vsmall_any _ _ _).mono ?_; rintro e w1 ⟨rfl, hb1⟩; have hz1 : w.heap.size + 2 ≤ w1.heap.size := (by have h := hb1.size; (try simp at h); omega); have hbb := Below.mono hb1 (B' := w.heap.size + 2) (by (try simp) <;> omega); clear hb1; have hcc := fun o => hbb.cell (p := ⟨w.heap.size, o, none⟩) (by (try simp) <;> omega); have hff := fun o => hbb.frozen (p := ⟨w.heap.size, o, none⟩) (by (try simp) <;> omega); with_reducible apply cell_in (w := w1) (p := ⟨w.heap.size, 0, none⟩); (focus (rw [hcc]; go_simp; try (exact rfl))); intro cc; with_reducible apply cell_in (w := w1) (p := ⟨w.heap.size, 1, none⟩); (focus (rw [hcc]; go_simp; try (exact rfl))); intro cc; have fz : (∀ o, w1.frozen? ⟨w.heap.size, o, none⟩ = false) := (by intro o; rw [hff]; go_simp); have hl : w.heap.size < w1.heap.size ∧ w.heap.size < w1.heap.size + 1 ∧ w.heap.size < w1.heap.size + 1 + 1 ∧ w.heap.size < w1.heap.size + 1 + 1 + 1 := (by omega); clear hcc hff; have hcc := fun o => hbb.cell (p := ⟨w.heap.size + 1, o, none⟩) (by (try simp) <;> omega); have hff := fun o => hbb.frozen (p := ⟨w.heap.size + 1, o, none⟩) (by (try simp) <;> omega); with_reducible apply cell_in (w := w1) (p := ⟨w.heap.size + 1, 0, none⟩); (focus (rw [hcc]; go_simp; try (exact rfl))); intro cc; with_reducible apply cell_in (w := w1) (p := ⟨w.heap.size + 1, 1, none⟩); (focus (rw [hcc]; go_simp; try (exact rfl))); intro cc; have fz : (∀ o, w1.frozen? ⟨w.heap.size + 1, o, none⟩ = false) := (by intro o; rw [hff]; go_simp); have hl : w.heap.size + 1 < w1.heap.size ∧ w.heap.size + 1 < w1.heap.size + 1 ∧ w.heap.size + 1 < w1.heap.size + 1 + 1 ∧ w.heap.size + 1 < w1.heap.size + 1 + 1 + 1 := (by omega); clear hcc hff))
    refine bodyPost_ret (v := .agg #[.int .i64 0, .int .i64 0]) (by simp only [results, Try.results58]; go_simp) rfl ⟨?_, ?_⟩
    · rfl
    · (repeat (first | (with_reducible exact Below.refl _ _) | (with_reducible refine Below.setCell ?_ ?_ _) | (with_reducible refine Below.alloc ?_ ?_ _) | (with_reducible refine Below.drew ?_) | (with_reducible refine Below.trans ?_ (Below.mono (by assumption) ?_)) | (with_reducible refine Own.below (by assumption) ?_ ?_))) <;> (first | omega | (simp; done) | (simp <;> omega))
  · rw [if_pos rfl]
    obtain ⟨q1, q2, q3, q4⟩ := small_bd h1
    obtain ⟨R1, R2, hR⟩ : ∃ R1 R2, (R1, R2) = halvF 10 a b := ⟨_, _, rfl⟩
    rw [← hR]
    have HR := Lib.hid hR
    clear hR
    go_enter Try.func58, Try.ntmps58; (try simp only [List.append_eq, List.cons_append, List.nil_append])
    go_wp2_with (first | (go_at_call 45; refine (vsmall_any _ _ _).mono ?_; rintro e w1 ⟨rfl, hb1⟩; have hz1 : w.heap.size + 2 ≤ w1.heap.size := (by have h := hb1.size; (try simp at h); omega); have hbb := Below.mono hb1 (B' := w.heap.size + 2) (by (try simp) <;> omega); clear hb1; have hcc := fun o => hbb.cell (p := ⟨w.heap.size, o, none⟩) (by (try simp) <;> omega); have hff := fun o => hbb.frozen (p := ⟨w.heap.size, o, none⟩) (by (try simp) <;> omega); with_reducible apply cell_in (w := w1) (p := ⟨w.heap.size, 0, none⟩); (focus (rw [hcc]; go_simp; try (exact rfl))); intro cc; with_reducible apply cell_in (w := w1) (p := ⟨w.heap.size, 1, none⟩); (focus (rw [hcc]; go_simp; try (exact rfl))); intro cc; have fz : (∀ o, w1.frozen? ⟨w.heap.size, o, none⟩ = false) := (by intro o; rw [hff]; go_simp); have hl : w.heap.size < w1.heap.size ∧ w.heap.size < w1.heap.size + 1 ∧ w.heap.size < w1.heap.size + 1 + 1 ∧ w.heap.size < w1.heap.size + 1 + 1 + 1 := (by omega); clear hcc hff; have hcc := fun o => hbb.cell (p := ⟨w.heap.size + 1, o, none⟩) (by (try simp) <;> omega); have hff := fun o => hbb.frozen (p := ⟨w.heap.size + 1, o, none⟩) (by (try simp) <;> omega); with_reducible apply cell_in (w := w1) (p := ⟨w.heap.size + 1, 0, none⟩); (focus (rw [hcc]; go_simp; try (exact rfl))); intro cc; with_reducible apply cell_in (w := w1) (p := ⟨w.heap.size + 1, 1, none⟩); (focus (rw [hcc]; go_simp; try (exact rfl))); intro cc; have fz : (∀ o, w1.frozen? ⟨w.heap.size + 1, o, none⟩ = false) := (by intro o; rw [hff]; go_simp); have hl : w.heap.size + 1 < w1.heap.size ∧ w.heap.size + 1 < w1.heap.size + 1 ∧ w.heap.size + 1 < w1.heap.size + 1 + 1 ∧ w.heap.size + 1 < w1.heap.size + 1 + 1 + 1 := (by omega); clear hcc hff))
    have HB1 := Lib.hid hbb
    clear hbb
    go_loopg [] 10 (fun f wr => ∃ (x y : Int), f ≤ 10 ∧ Hid ((R1, R2) = halvF f x y) ∧ -half10 f ≤ x ∧ x ≤ half10 f ∧ -half10 f ≤ y ∧ y ≤ half10 f ∧ wr.cell? ⟨w.heap.size, 0, none⟩ = some (.int .i64 x) ∧ wr.cell? ⟨w.heap.size, 1, none⟩ = some (.int .i64 y) ∧ wr.cell? ⟨w.heap.size + 1, 0, none⟩ = some (.int .i64 0) ∧ wr.cell? ⟨w.heap.size + 1, 1, none⟩ = some (.int .i64 0) ∧ (∀ o, wr.frozen? ⟨w.heap.size, o, none⟩ = false) ∧ (∀ o, wr.frozen? ⟨w.heap.size + 1, o, none⟩ = false) ∧ w.heap.size + 2 ≤ wr.heap.size ∧ Below w.heap.size w wr)
    case atStart => exact ⟨a, b, by omega, HR, by simp [half10]; omega, by simp [half10]; omega, by simp [half10]; omega, by simp [half10]; omega, by assumption, by assumption, by assumption, by assumption, by assumption, by assumption, by omega, by have hb := HB1.out; (repeat (first | (with_reducible exact Below.refl _ _) | (with_reducible refine Below.setCell ?_ ?_ _) | (with_reducible refine Below.alloc ?_ ?_ _) | (with_reducible refine Below.drew ?_) | (with_reducible refine Below.trans ?_ (Below.mono (by assumption) ?_)) | (with_reducible refine Own.below (by assumption) ?_ ?_))) <;> (first | omega | (simp; done) | (simp <;> omega))⟩
    case round =>
      obtain ⟨x, y, hf, HF, x0, x1, y0, y1, c0, c1, c2, c3, f0, f1, hz, hbel⟩ := hrel
      obtain ⟨B, hB⟩ : ∃ B, B = half10 gk := ⟨_, rfl⟩
      have hBb := half10_bd gk hf
      rw [← hB] at x0 x1 y0 y1 hBb
      obtain ⟨B0, B1⟩ := hBb
      have HBEL := Lib.hid hbel
      obtain ⟨Mx, hMx⟩ : ∃ Mx, Mx = (x.natAbs : Int) := ⟨_, rfl⟩
      obtain ⟨My, hMy⟩ : ∃ My, My = (y.natAbs : Int) := ⟨_, rfl⟩
      obtain ⟨M, hM⟩ : ∃ M, M = max Mx My := ⟨_, rfl⟩
      have m1 : max (max (max x (-x)) y) (-y) = M := by omega
      have m2 : max x (-x) = Mx := by omega
      have m3 : max y (-y) = My := by omega
      have l1 : w.heap.size < wr.heap.size := by omega
      have l2 : w.heap.size + 1 < wr.heap.size := by omega
      have HBI := @big_iff x y
      rw [← hMx, ← hMy, ← hM] at HBI
      replace HBI := Lib.hid HBI
      have HB := Lib.hid hB
      have hcs : (2097152 < Mx ∧ 2097152 < M) ∨ (¬ 2097152 < Mx ∧ 2097152 < My ∧ 2097152 < M) ∨ (¬ 2097152 < Mx ∧ ¬ 2097152 < My ∧ ¬ 2097152 < M) := by omega
      have hMB : 2097152 < M → 2097152 < B := by omega
      clear hbel hB hM hMx hMy
      by_cases hbig : 2097152 < M
      · rcases gk with _ | f
        · exfalso
          have := HB.out
          rw [show half10 0 = 1048576 from rfl] at this
          have := hMB hbig
          omega
        · have e1 := HB.out
          rw [show half10 (f + 1) = 2 * half10 f from rfl] at e1
          have hF := HF.out
          rw [show halvF (f + 1) x y = halvF f (x.tdiv 2) (y.tdiv 2) from if_pos (HBI.out.2 hbig)] at hF
          obtain ⟨p1, p2⟩ := @tdiv2_bd x (half10 f) (by omega) (by omega)
          obtain ⟨p3, p4⟩ := @tdiv2_bd y (half10 f) (by omega) (by omega)
          obtain ⟨X, hX⟩ : ∃ X, X = x.tdiv 2 := ⟨_, rfl⟩
          obtain ⟨Y, hY⟩ : ∃ Y, Y = y.tdiv 2 := ⟨_, rfl⟩
          rw [← hX, ← hY] at hF
          rw [← hX] at p1 p2
          rw [← hY] at p3 p4
          have dX := hX.symm
          have dY := hY.symm
          have HF2 := Lib.hid hF
          have HP := Lib.hid (And.intro p1 (And.intro p2 (And.intro p3 p4)))
          have b1 : -1073741824 ≤ X := by omega
          have b2 : X ≤ 1073741824 := by omega
          have b3 : -1073741824 ≤ Y := by omega
          have b4 : Y ≤ 1073741824 := by omega
          have hf' : f ≤ 10 := by omega
          clear hF e1 hX hY p1 p2 p3 p4 hMB
          rcases hcs with ⟨g1, g2⟩ | ⟨g1, g2, g3⟩ | ⟨g1, g2, g3⟩
          · go_wp2_with fail
            go_roundg f
            case measure => omega
            case rel => exact ⟨X, Y, hf', HF2, HP.out.1, HP.out.2.1, HP.out.2.2.1, HP.out.2.2.2, by go_simp, by go_simp, by go_simp, by go_simp, by go_simp, by go_simp, by simpa [World.setCell] using hz, by have hb := HBEL.out; (repeat (first | (with_reducible exact Below.refl _ _) | (with_reducible refine Below.setCell ?_ ?_ _) | (with_reducible refine Below.alloc ?_ ?_ _) | (with_reducible refine Below.drew ?_) | (with_reducible refine Below.trans ?_ (Below.mono (by assumption) ?_)) | (with_reducible refine Own.below (by assumption) ?_ ?_))) <;> (first | omega | (simp; done) | (simp <;> omega))⟩
          · go_wp2_with fail
            go_roundg f
            case measure => omega
            case rel => exact ⟨X, Y, hf', HF2, HP.out.1, HP.out.2.1, HP.out.2.2.1, HP.out.2.2.2, by go_simp, by go_simp, by go_simp, by go_simp, by go_simp, by go_simp, by simpa [World.setCell] using hz, by have hb := HBEL.out; (repeat (first | (with_reducible exact Below.refl _ _) | (with_reducible refine Below.setCell ?_ ?_ _) | (with_reducible refine Below.alloc ?_ ?_ _) | (with_reducible refine Below.drew ?_) | (with_reducible refine Below.trans ?_ (Below.mono (by assumption) ?_)) | (with_reducible refine Own.below (by assumption) ?_ ?_))) <;> (first | omega | (simp; done) | (simp <;> omega))⟩
          · exact absurd hbig g3
      · have hFin : R1 = x ∧ R2 = y := by
          have hF := HF.out
          rcases gk with _ | f
          · exact Prod.mk.inj hF
          · rw [show halvF (f + 1) x y = (x, y) from if_neg (fun h => hbig (HBI.out.1 h))] at hF
            exact Prod.mk.inj hF
        obtain ⟨rfl, rfl⟩ := hFin
        rcases hcs with ⟨g1, g2⟩ | ⟨g1, g2, g3⟩ | ⟨g1, g2, g3⟩
        · exact absurd g2 hbig
        · exact absurd g3 hbig
        · clear hMB hbig
          go_wp2_with fail
          refine bodyPost_ret (v := .agg #[.int .i64 R1, .int .i64 R2]) (by simp only [results, Try.results58]; go_simp) rfl ⟨?_, ?_⟩
          · rfl
          · have hb := HBEL.out
            (repeat (first | (with_reducible exact Below.refl _ _) | (with_reducible refine Below.setCell ?_ ?_ _) | (with_reducible refine Below.alloc ?_ ?_ _) | (with_reducible refine Below.drew ?_) | (with_reducible refine Below.trans ?_ (Below.mono (by assumption) ?_)) | (with_reducible refine Own.below (by assumption) ?_ ?_))) <;> (first | omega | (simp; done) | (simp <;> omega))
set_option maxHeartbeats 1000000 in
theorem rhalve_any (a b : Int) (w : World) :
    Calls Try.prog 59 #[.agg #[.int .i64 a, .int .i64 b]] w fun e w' => e = .returned (.agg #[.int .i64 (halveR a b).1, .int .i64 (halveR a b).2]) ∧ Below w.heap.size w w' := by
  unfold halveR
  cases h1 : smallB a b
  · rw [if_neg (fun h => by cases h)]
    go_enter Try.func59, Try.ntmps59; (try simp only [List.append_eq, List.cons_append, List.nil_append])
    go_wp2_with (first | (go_at_call 36; refine (rsmall_any _ _ _).mono ?_; rintro e w1 ⟨rfl, hb1⟩; have hz1 : w.heap.size + 2 ≤ w1.heap.size := (by have h := hb1.size; (try simp at h); omega); have hbb := Below.mono hb1 (B' := w.heap.size + 2) (by (try simp) <;> omega); clear hb1; have hcc := fun o => hbb.cell (p := ⟨w.heap.size, o, none⟩) (by (try simp) <;> omega); have hff := fun o => hbb.frozen (p := ⟨w.heap.size, o, none⟩) (by (try simp) <;> omega); with_reducible apply cell_in (w := w1) (p := ⟨w.heap.size, 0, none⟩); (focus (rw [hcc]; go_simp; try (exact rfl))); intro cc; with_reducible apply cell_in (w := w1) (p := ⟨w.heap.size, 1, none⟩); (focus (rw [hcc]; go_simp; try (exact rfl))); intro cc; have fz : (∀ o, w1.frozen? ⟨w.heap.size, o, none⟩ = false) := (by intro o; rw [hff]; go_simp); have hl : w.heap.size < w1.heap.size ∧ w.heap.size < w1.heap.size + 1 ∧ w.heap.size < w1.heap.size + 1 + 1 ∧ w.heap.size < w1.heap.size + 1 + 1 + 1 := (by omega); clear hcc hff; have hcc := fun o => hbb.cell (p := ⟨w.heap.size + 1, o, none⟩) (by (try simp) <;> omega); have hff := fun o => hbb.frozen (p := ⟨w.heap.size + 1, o, none⟩) (by (try simp) <;> omega); with_reducible apply cell_in (w := w1) (p := ⟨w.heap.size + 1, 0, none⟩); (focus (rw [hcc]; go_simp; try (exact rfl))); intro cc; with_reducible apply cell_in (w := w1) (p := ⟨w.heap.size + 1, 1, none⟩); (focus (rw [hcc]; go_simp; try (exact rfl))); intro cc; have fz : (∀ o, w1.frozen? ⟨w.heap.size + 1, o, none⟩ = false) := (by intro o; rw [hff]; go_simp); have hl : w.heap.size + 1 < w1.heap.size ∧ w.heap.size + 1 < w1.heap.size + 1 ∧ w.heap.size + 1 < w1.heap.size + 1 + 1 ∧ w.heap.size + 1 < w1.heap.size + 1 + 1 + 1 := (by omega); clear hcc hff))
    refine bodyPost_ret (v := .agg #[.int .i64 0, .int .i64 0]) (by simp only [results, Try.results59]; go_simp) rfl ⟨?_, ?_⟩
    · rfl
    · (repeat (first | (with_reducible exact Below.refl _ _) | (with_reducible refine Below.setCell ?_ ?_ _) | (with_reducible refine Below.alloc ?_ ?_ _) | (with_reducible refine Below.drew ?_) | (with_reducible refine Below.trans ?_ (Below.mono (by assumption) ?_)) | (with_reducible refine Own.below (by assumption) ?_ ?_))) <;> (first | omega | (simp; done) | (simp <;> omega))
  · rw [if_pos rfl]
    obtain ⟨q1, q2, q3, q4⟩ := small_bd h1
    obtain ⟨R1, R2, hR⟩ : ∃ R1 R2, (R1, R2) = halvF 10 a b := ⟨_, _, rfl⟩
    rw [← hR]
    have HR := Lib.hid hR
    clear hR
    go_enter Try.func59, Try.ntmps59; (try simp only [List.append_eq, List.cons_append, List.nil_append])
    go_wp2_with (first | (go_at_call 36; refine (rsmall_any _ _ _).mono ?_; rintro e w1 ⟨rfl, hb1⟩; have hz1 : w.heap.size + 2 ≤ w1.heap.size := (by have h := hb1.size; (try simp at h); omega); have hbb := Below.mono hb1 (B' := w.heap.size + 2) (by (try simp) <;> omega); clear hb1; have hcc := fun o => hbb.cell (p := ⟨w.heap.size, o, none⟩) (by (try simp) <;> omega); have hff := fun o => hbb.frozen (p := ⟨w.heap.size, o, none⟩) (by (try simp) <;> omega); with_reducible apply cell_in (w := w1) (p := ⟨w.heap.size, 0, none⟩); (focus (rw [hcc]; go_simp; try (exact rfl))); intro cc; with_reducible apply cell_in (w := w1) (p := ⟨w.heap.size, 1, none⟩); (focus (rw [hcc]; go_simp; try (exact rfl))); intro cc; have fz : (∀ o, w1.frozen? ⟨w.heap.size, o, none⟩ = false) := (by intro o; rw [hff]; go_simp); have hl : w.heap.size < w1.heap.size ∧ w.heap.size < w1.heap.size + 1 ∧ w.heap.size < w1.heap.size + 1 + 1 ∧ w.heap.size < w1.heap.size + 1 + 1 + 1 := (by omega); clear hcc hff; have hcc := fun o => hbb.cell (p := ⟨w.heap.size + 1, o, none⟩) (by (try simp) <;> omega); have hff := fun o => hbb.frozen (p := ⟨w.heap.size + 1, o, none⟩) (by (try simp) <;> omega); with_reducible apply cell_in (w := w1) (p := ⟨w.heap.size + 1, 0, none⟩); (focus (rw [hcc]; go_simp; try (exact rfl))); intro cc; with_reducible apply cell_in (w := w1) (p := ⟨w.heap.size + 1, 1, none⟩); (focus (rw [hcc]; go_simp; try (exact rfl))); intro cc; have fz : (∀ o, w1.frozen? ⟨w.heap.size + 1, o, none⟩ = false) := (by intro o; rw [hff]; go_simp); have hl : w.heap.size + 1 < w1.heap.size ∧ w.heap.size + 1 < w1.heap.size + 1 ∧ w.heap.size + 1 < w1.heap.size + 1 + 1 ∧ w.heap.size + 1 < w1.heap.size + 1 + 1 + 1 := (by omega); clear hcc hff))
    have HB1 := Lib.hid hbb
    clear hbb
    go_loopg [] 10 (fun f wr => ∃ (x y : Int), f ≤ 10 ∧ Hid ((R1, R2) = halvF f x y) ∧ -half10 f ≤ x ∧ x ≤ half10 f ∧ -half10 f ≤ y ∧ y ≤ half10 f ∧ wr.cell? ⟨w.heap.size, 0, none⟩ = some (.int .i64 x) ∧ wr.cell? ⟨w.heap.size, 1, none⟩ = some (.int .i64 y) ∧ wr.cell? ⟨w.heap.size + 1, 0, none⟩ = some (.int .i64 0) ∧ wr.cell? ⟨w.heap.size + 1, 1, none⟩ = some (.int .i64 0) ∧ (∀ o, wr.frozen? ⟨w.heap.size, o, none⟩ = false) ∧ (∀ o, wr.frozen? ⟨w.heap.size + 1, o, none⟩ = false) ∧ w.heap.size + 2 ≤ wr.heap.size ∧ Below w.heap.size w wr)
    case atStart => exact ⟨a, b, by omega, HR, by simp [half10]; omega, by simp [half10]; omega, by simp [half10]; omega, by simp [half10]; omega, by assumption, by assumption, by assumption, by assumption, by assumption, by assumption, by omega, by have hb := HB1.out; (repeat (first | (with_reducible exact Below.refl _ _) | (with_reducible refine Below.setCell ?_ ?_ _) | (with_reducible refine Below.alloc ?_ ?_ _) | (with_reducible refine Below.drew ?_) | (with_reducible refine Below.trans ?_ (Below.mono (by assumption) ?_)) | (with_reducible refine Own.below (by assumption) ?_ ?_))) <;> (first | omega | (simp; done) | (simp <;> omega))⟩
    case round =>
      obtain ⟨x, y, hf, HF, x0, x1, y0, y1, c0, c1, c2, c3, f0, f1, hz, hbel⟩ := hrel
      obtain ⟨B, hB⟩ : ∃ B, B = half10 gk := ⟨_, rfl⟩
      have hBb := half10_bd gk hf
      rw [← hB] at x0 x1 y0 y1 hBb
      obtain ⟨B0, B1⟩ := hBb
      have HBEL := Lib.hid hbel
      obtain ⟨Mx, hMx⟩ : ∃ Mx, Mx = (x.natAbs : Int) := ⟨_, rfl⟩
      obtain ⟨My, hMy⟩ : ∃ My, My = (y.natAbs : Int) := ⟨_, rfl⟩
      obtain ⟨M, hM⟩ : ∃ M, M = max Mx My := ⟨_, rfl⟩
      have m1 : max (max (max x (-x)) y) (-y) = M := by omega
      have m2 : max x (-x) = Mx := by omega
      have m3 : max y (-y) = My := by omega
      have l1 : w.heap.size < wr.heap.size := by omega
      have l2 : w.heap.size + 1 < wr.heap.size := by omega
      have HBI := @big_iff x y
      rw [← hMx, ← hMy, ← hM] at HBI
      replace HBI := Lib.hid HBI
      have HB := Lib.hid hB
      have hcs : (2097152 < Mx ∧ 2097152 < M) ∨ (¬ 2097152 < Mx ∧ 2097152 < My ∧ 2097152 < M) ∨ (¬ 2097152 < Mx ∧ ¬ 2097152 < My ∧ ¬ 2097152 < M) := by omega
      have hMB : 2097152 < M → 2097152 < B := by omega
      clear hbel hB hM hMx hMy
      by_cases hbig : 2097152 < M
      · rcases gk with _ | f
        · exfalso
          have := HB.out
          rw [show half10 0 = 1048576 from rfl] at this
          have := hMB hbig
          omega
        · have e1 := HB.out
          rw [show half10 (f + 1) = 2 * half10 f from rfl] at e1
          have hF := HF.out
          rw [show halvF (f + 1) x y = halvF f (x.tdiv 2) (y.tdiv 2) from if_pos (HBI.out.2 hbig)] at hF
          obtain ⟨p1, p2⟩ := @tdiv2_bd x (half10 f) (by omega) (by omega)
          obtain ⟨p3, p4⟩ := @tdiv2_bd y (half10 f) (by omega) (by omega)
          obtain ⟨X, hX⟩ : ∃ X, X = x.tdiv 2 := ⟨_, rfl⟩
          obtain ⟨Y, hY⟩ : ∃ Y, Y = y.tdiv 2 := ⟨_, rfl⟩
          rw [← hX, ← hY] at hF
          rw [← hX] at p1 p2
          rw [← hY] at p3 p4
          have dX := hX.symm
          have dY := hY.symm
          have HF2 := Lib.hid hF
          have HP := Lib.hid (And.intro p1 (And.intro p2 (And.intro p3 p4)))
          have b1 : -1073741824 ≤ X := by omega
          have b2 : X ≤ 1073741824 := by omega
          have b3 : -1073741824 ≤ Y := by omega
          have b4 : Y ≤ 1073741824 := by omega
          have hf' : f ≤ 10 := by omega
          clear hF e1 hX hY p1 p2 p3 p4 hMB
          rcases hcs with ⟨g1, g2⟩ | ⟨g1, g2, g3⟩ | ⟨g1, g2, g3⟩
          · go_wp2_with fail
            go_roundg f
            case measure => omega
            case rel => exact ⟨X, Y, hf', HF2, HP.out.1, HP.out.2.1, HP.out.2.2.1, HP.out.2.2.2, by go_simp, by go_simp, by go_simp, by go_simp, by go_simp, by go_simp, by simpa [World.setCell] using hz, by have hb := HBEL.out; (repeat (first | (with_reducible exact Below.refl _ _) | (with_reducible refine Below.setCell ?_ ?_ _) | (with_reducible refine Below.alloc ?_ ?_ _) | (with_reducible refine Below.drew ?_) | (with_reducible refine Below.trans ?_ (Below.mono (by assumption) ?_)) | (with_reducible refine Own.below (by assumption) ?_ ?_))) <;> (first | omega | (simp; done) | (simp <;> omega))⟩
          · go_wp2_with fail
            go_roundg f
            case measure => omega
            case rel => exact ⟨X, Y, hf', HF2, HP.out.1, HP.out.2.1, HP.out.2.2.1, HP.out.2.2.2, by go_simp, by go_simp, by go_simp, by go_simp, by go_simp, by go_simp, by simpa [World.setCell] using hz, by have hb := HBEL.out; (repeat (first | (with_reducible exact Below.refl _ _) | (with_reducible refine Below.setCell ?_ ?_ _) | (with_reducible refine Below.alloc ?_ ?_ _) | (with_reducible refine Below.drew ?_) | (with_reducible refine Below.trans ?_ (Below.mono (by assumption) ?_)) | (with_reducible refine Own.below (by assumption) ?_ ?_))) <;> (first | omega | (simp; done) | (simp <;> omega))⟩
          · exact absurd hbig g3
      · have hFin : R1 = x ∧ R2 = y := by
          have hF := HF.out
          rcases gk with _ | f
          · exact Prod.mk.inj hF
          · rw [show halvF (f + 1) x y = (x, y) from if_neg (fun h => hbig (HBI.out.1 h))] at hF
            exact Prod.mk.inj hF
        obtain ⟨rfl, rfl⟩ := hFin
        rcases hcs with ⟨g1, g2⟩ | ⟨g1, g2, g3⟩ | ⟨g1, g2, g3⟩
        · exact absurd g2 hbig
        · exact absurd g3 hbig
        · clear hMB hbig
          go_wp2_with fail
          refine bodyPost_ret (v := .agg #[.int .i64 R1, .int .i64 R2]) (by simp only [results, Try.results59]; go_simp) rfl ⟨?_, ?_⟩
          · rfl
          · have hb := HBEL.out
            (repeat (first | (with_reducible exact Below.refl _ _) | (with_reducible refine Below.setCell ?_ ?_ _) | (with_reducible refine Below.alloc ?_ ?_ _) | (with_reducible refine Below.drew ?_) | (with_reducible refine Below.trans ?_ (Below.mono (by assumption) ?_)) | (with_reducible refine Own.below (by assumption) ?_ ?_))) <;> (first | omega | (simp; done) | (simp <;> omega))
theorem rootAux_spec : ∀ (i : Nat) (n r : Int), 0 ≤ r → r * r ≤ n → n < (r + 2 ^ i) * (r + 2 ^ i) → 0 ≤ rootAux i n r ∧ rootAux i n r * rootAux i n r ≤ n ∧ n < (rootAux i n r + 1) * (rootAux i n r + 1)
  | 0, n, r, h0, h1, h2 => ⟨h0, h1, by rw [show (2 : Int) ^ 0 = 1 from rfl] at h2; exact h2⟩
  | i + 1, n, r, h0, h1, h2 => by
    have hp : (0 : Int) < 2 ^ i := Int.pow_pos (by decide)
    unfold rootAux
    split
    · rename_i h
      refine rootAux_spec i n _ (by omega) h ?_
      have e : r + 2 ^ i + 2 ^ i = r + 2 ^ (i + 1) := by rw [Int.pow_succ]; omega
      rw [e]; exact h2
    · rename_i h
      exact rootAux_spec i n r h0 h1 (by omega)
theorem rootR_spec {n : Int} (h0 : 0 ≤ n) (h : n ≤ 9223372036854775807) : 0 ≤ rootR n ∧ rootR n * rootR n ≤ n ∧ n < (rootR n + 1) * (rootR n + 1) := by
  unfold rootR
  split
  · have : n = 0 := by omega
    subst this
    decide
  · exact rootAux_spec 32 n 0 (by omega) (by omega) (by
      have e : ((0 : Int) + 2 ^ 32) * (0 + 2 ^ 32) = 18446744073709551616 := by decide
      omega)
theorem mul_self_mono {a b : Int} (h0 : 0 ≤ a) (h : a ≤ b) : a * a ≤ b * b := Int.mul_le_mul h h h0 (by omega)
theorem root_iff {n m : Int} (hn : n ≤ 9223372036854775807) (hm : 1 ≤ m) : m ≤ rootR n ↔ m * m ≤ n := by
  rcases Int.lt_or_le n 0 with h | h
  · have e : rootR n = 0 := if_pos (by omega)
    have := mul_self_mono (show (0 : Int) ≤ 1 by decide) hm
    omega
  · obtain ⟨a, b, c⟩ := rootR_spec h hn
    constructor
    · intro g
      have := mul_self_mono (show 0 ≤ m by omega) g
      omega
    · intro g
      rcases Int.lt_or_le (rootR n) m with g2 | g2
      · have := mul_self_mono (show 0 ≤ rootR n + 1 by omega) (show rootR n + 1 ≤ m by omega)
        omega
      · exact g2
theorem root_bd {n : Int} (hn : n ≤ 9223372036854775807) : 0 ≤ rootR n ∧ rootR n ≤ 3037000499 := by
  rcases Int.lt_or_le n 0 with h | h
  · have e : rootR n = 0 := if_pos (by omega)
    omega
  · obtain ⟨a, b, c⟩ := rootR_spec h hn
    refine ⟨a, ?_⟩
    rcases Int.lt_or_le 3037000499 (rootR n) with g | g
    · have := mul_self_mono (show (0 : Int) ≤ 3037000500 by decide) (show 3037000500 ≤ rootR n by omega)
      omega
    · exact g
set_option maxHeartbeats 1000000 in
theorem rroot_any (n : Int) (w : World) (n1 : -9223372036854775808 ≤ n) (n2 : n ≤ 9223372036854775807) :
    Calls Try.prog 60 #[.int .i64 n] w fun e w' => e = .returned (.int .i64 (rootR n)) ∧ Below w.heap.size w w' := by
  have hb := root_bd n2
  have HI := Lib.hid (fun m => @root_iff n m n2)
  obtain ⟨S, hS⟩ : ∃ S, S = rootR n := ⟨_, rfl⟩
  rw [← hS] at hb ⊢
  obtain ⟨s0, s1⟩ := hb
  have HS := Lib.hid hS
  clear hS
  go_enter Try.func60, Try.ntmps60; (try simp only [List.append_eq, List.cons_append, List.nil_append])
  go_wp2_with fail
  go_loop [3, 4] (fun vl vh => ∃ l h : Int, vl = .int .i64 l ∧ vh = .int .i64 h ∧ 0 ≤ l ∧ l ≤ S ∧ S ≤ h ∧ h ≤ 3037000499) (fun vl vh => (intOf vh - intOf vl).toNat)
  case atStart => exact ⟨0, 3037000499, rfl, rfl, by omega, s0, s1, by omega⟩
  case round =>
    obtain ⟨l, h, rfl, rfl, l0, l1, h0, h1⟩ := hrel
    by_cases hlt : l < h
    · obtain ⟨m, hm⟩ : ∃ m, m = (l + h + 1) / 2 := ⟨_, rfl⟩
      have hq : (l + h + 1).tdiv 2 = m := by rw [hm]; exact Int.tdiv_eq_ediv_of_nonneg (by omega)
      have m0 : l + 1 ≤ m := by omega
      have m1 : m ≤ h := by omega
      have m2 : 0 ≤ m := by omega
      have hmm := Int.mul_le_mul (show m ≤ 3037000499 by omega) (show m ≤ 3037000499 by omega) m2 (by omega)
      have hmn := Int.mul_nonneg m2 m2
      have hiff := HI.out m (by omega)
      rw [← HS.out] at hiff
      have hm' := hm.symm
      obtain ⟨M, hM⟩ : ∃ M, M = m * m := ⟨_, rfl⟩
      rw [← hM] at hmm hmn hiff
      have hM' := hM.symm
      have HIF := Lib.hid hiff
      clear hm hM hiff
      by_cases hc : M ≤ n
      · have hS := HIF.out.2 hc
        go_wp2_with fail
        go_round
        case rel => exact ⟨m, h, rfl, rfl, m2, hS, h0, h1⟩
        case measure => simp [intOf]; omega
      · have hS : ¬ m ≤ S := fun g => hc (HIF.out.1 g)
        go_wp2_with fail
        go_round
        case rel => exact ⟨l, m - 1, rfl, rfl, l0, l1, by omega, by omega⟩
        case measure => simp [intOf]; omega
    · obtain rfl : l = S := by omega
      go_wp2_with fail
      go_ret
      exact ⟨rfl, Below.refl _ _⟩
end Go.Proofs.Ytkoejgpnlncgaaa
