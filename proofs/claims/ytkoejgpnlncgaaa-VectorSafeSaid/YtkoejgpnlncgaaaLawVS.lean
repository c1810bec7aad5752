/- Law VectorSafe returns true for every vector and every list; the arguments read afterwards as they read before. No conditions. -/
import Derived.Test.YtkoejgpnlncgaaaSafeW
import Derived.Test.YtkoejgpnlncgaaaDrawOn
import Derived.Test.YtkoejgpnlncgaaaVecE
import Derived.Test.YtkoejgpnlncgaaaOpenVs
import Derived.Deep.AppendLies
import Derived.Test.YtkoejgpnlncgaaaRows
namespace Go.Proofs.Ytkoejgpnlncgaaa.lawVS
open Go.ChangeShapes Go.WideShapes Go.ChangeAt Go.RowKit
set_option linter.unusedVariables false
def dupR (l : List V2) : List V2 := l.reverse.flatMap (fun n => [n, n])
theorem dup_mem (l : List V2) (n : V2) : n ∈ dupR l ↔ n ∈ l := by unfold dupR; simp
theorem dup_len (l : List V2) : (dupR l).length = 2 * l.length := by
  unfold dupR
  have e : l.length = l.reverse.length := (List.length_reverse ..).symm
  rw [e]
  generalize l.reverse = m
  induction m with
  | nil => rfl
  | cons a m ih => simp only [List.flatMap_cons, List.length_append, List.length_cons, List.length_nil] at *; omega
theorem dup_cons (x : V2) (l : List V2) : dupR (x :: l) = dupR l ++ [x, x] := by unfold dupR; simp
theorem flatV_app (l m : List V2) : flatV (l ++ m) = flatV l ++ flatV m := by simp [flatV]
-- A list that is too long, or a vector that is too large: awake.
set_option maxRecDepth 100000 in
set_option maxHeartbeats 2000000 in
theorem vs_long (x : V2) (A : Option Addr) (n c : Nat) (w : World) (h : 12 < n) (hm : n ≤ maxLen) :
    Calls Try.prog 9 #[.agg #[.int .i64 x.1, .int .i64 x.2], .slice A n c] w fun e w' => e = .returned (.bool true) ∧ Below w.heap.size w w' := by
  unfold maxLen at hm
  have h1 : (12 : Int) < (n : Int) := by omega
  go_enter Try.func9, Try.ntmps9; (try simp only [List.append_eq, List.cons_append, List.nil_append])
  go_wp2_with fail
  -- own blocks: w.heap.size:2
  (go_at_call 31; refine (awake06_any _).mono ?_; rintro e w1 ⟨rfl, hb_w1⟩; have hz_w1 := hb_w1.size; (try simp at hz_w1); have hcc := fun o => hb_w1.cell (p := ⟨w.heap.size, o, none⟩) (by (try simp) <;> omega); have hff := fun o => hb_w1.frozen (p := ⟨w.heap.size, o, none⟩) (by (try simp) <;> omega); with_reducible apply cell_in (w := w1) (p := ⟨w.heap.size, 0, none⟩); (focus (rw [hcc]; go_simp; try (exact rfl))); intro cc; with_reducible apply cell_in (w := w1) (p := ⟨w.heap.size, 1, none⟩); (focus (rw [hcc]; go_simp; try (exact rfl))); intro cc; have fz : (∀ o, w1.frozen? ⟨w.heap.size, o, none⟩ = false) := (by intro o; rw [hff]; go_simp); have hl : w.heap.size < w1.heap.size ∧ w.heap.size < w1.heap.size + 1 ∧ w.heap.size < w1.heap.size + 1 + 1 ∧ w.heap.size < w1.heap.size + 1 + 1 + 1 := (by omega); clear hcc hff)
  go_wp2_with fail
  (go_at_call 31; refine (awake06_any _).mono ?_; rintro e w2 ⟨rfl, hb_w2⟩; have hz_w2 := hb_w2.size; (try simp at hz_w2); have hcc := fun o => hb_w2.cell (p := ⟨w.heap.size, o, none⟩) (by (try simp) <;> omega); have hff := fun o => hb_w2.frozen (p := ⟨w.heap.size, o, none⟩) (by (try simp) <;> omega); with_reducible apply cell_in (w := w2) (p := ⟨w.heap.size, 0, none⟩); (focus (rw [hcc]; go_simp; try (exact rfl))); intro cc; with_reducible apply cell_in (w := w2) (p := ⟨w.heap.size, 1, none⟩); (focus (rw [hcc]; go_simp; try (exact rfl))); intro cc; have fz : (∀ o, w2.frozen? ⟨w.heap.size, o, none⟩ = false) := (by intro o; rw [hff]; go_simp); have hl : w.heap.size < w2.heap.size ∧ w.heap.size < w2.heap.size + 1 ∧ w.heap.size < w2.heap.size + 1 + 1 ∧ w.heap.size < w2.heap.size + 1 + 1 + 1 := (by omega); clear hcc hff)
  go_wp2_with fail
  go_ret
  refine ⟨rfl, ?_⟩
  (repeat (first | (with_reducible exact Below.refl _ _) | (with_reducible refine Below.setCell ?_ ?_ _) | (with_reducible refine Below.alloc ?_ ?_ _) | (with_reducible refine Below.drew ?_) | (with_reducible refine Below.trans ?_ (Below.mono (by assumption) ?_)) | (with_reducible refine Own.below (by assumption) ?_ ?_))) <;> (first | omega | (simp; done) | (simp <;> omega))
set_option maxRecDepth 100000 in
set_option maxHeartbeats 2000000 in
theorem vs_big (x : V2) (A : Option Addr) (n c : Nat) (w : World) (h : n ≤ 12) (hx : smallB x.1 x.2 = false) :
    Calls Try.prog 9 #[.agg #[.int .i64 x.1, .int .i64 x.2], .slice A n c] w fun e w' => e = .returned (.bool true) ∧ Below w.heap.size w w' := by
  have h1 : ¬ (12 : Int) < (n : Int) := by omega
  have h2 : decide (12 < n) = false := by simpa using h
  have h3 : ¬ 12 < n := by omega
  go_enter Try.func9, Try.ntmps9; (try simp only [List.append_eq, List.cons_append, List.nil_append])
  go_wp2_with fail
  -- own blocks: w.heap.size:2
  (go_at_call 31; refine (awake06_any _).mono ?_; rintro e w1 ⟨rfl, hb_w1⟩; have hz_w1 := hb_w1.size; (try simp at hz_w1); have hcc := fun o => hb_w1.cell (p := ⟨w.heap.size, o, none⟩) (by (try simp) <;> omega); have hff := fun o => hb_w1.frozen (p := ⟨w.heap.size, o, none⟩) (by (try simp) <;> omega); with_reducible apply cell_in (w := w1) (p := ⟨w.heap.size, 0, none⟩); (focus (rw [hcc]; go_simp; try (exact rfl))); intro cc; with_reducible apply cell_in (w := w1) (p := ⟨w.heap.size, 1, none⟩); (focus (rw [hcc]; go_simp; try (exact rfl))); intro cc; have fz : (∀ o, w1.frozen? ⟨w.heap.size, o, none⟩ = false) := (by intro o; rw [hff]; go_simp); have hl : w.heap.size < w1.heap.size ∧ w.heap.size < w1.heap.size + 1 ∧ w.heap.size < w1.heap.size + 1 + 1 ∧ w.heap.size < w1.heap.size + 1 + 1 + 1 := (by omega); clear hcc hff)
  go_wp2_with fail
  (go_at_call 36; refine (rsmall_any _ _ _).mono ?_; rintro e w2 ⟨rfl, hb_w2⟩; have hz_w2 := hb_w2.size; (try simp at hz_w2); have hcc := fun o => hb_w2.cell (p := ⟨w.heap.size, o, none⟩) (by (try simp) <;> omega); have hff := fun o => hb_w2.frozen (p := ⟨w.heap.size, o, none⟩) (by (try simp) <;> omega); with_reducible apply cell_in (w := w2) (p := ⟨w.heap.size, 0, none⟩); (focus (rw [hcc]; go_simp; try (exact rfl))); intro cc; with_reducible apply cell_in (w := w2) (p := ⟨w.heap.size, 1, none⟩); (focus (rw [hcc]; go_simp; try (exact rfl))); intro cc; have fz : (∀ o, w2.frozen? ⟨w.heap.size, o, none⟩ = false) := (by intro o; rw [hff]; go_simp); have hl : w.heap.size < w2.heap.size ∧ w.heap.size < w2.heap.size + 1 ∧ w.heap.size < w2.heap.size + 1 + 1 ∧ w.heap.size < w2.heap.size + 1 + 1 + 1 := (by omega); clear hcc hff)
  go_wp2_with fail
  (go_at_call 31; refine (awake06_any _).mono ?_; rintro e w3 ⟨rfl, hb_w3⟩; have hz_w3 := hb_w3.size; (try simp at hz_w3); have hcc := fun o => hb_w3.cell (p := ⟨w.heap.size, o, none⟩) (by (try simp) <;> omega); have hff := fun o => hb_w3.frozen (p := ⟨w.heap.size, o, none⟩) (by (try simp) <;> omega); with_reducible apply cell_in (w := w3) (p := ⟨w.heap.size, 0, none⟩); (focus (rw [hcc]; go_simp; try (exact rfl))); intro cc; with_reducible apply cell_in (w := w3) (p := ⟨w.heap.size, 1, none⟩); (focus (rw [hcc]; go_simp; try (exact rfl))); intro cc; have fz : (∀ o, w3.frozen? ⟨w.heap.size, o, none⟩ = false) := (by intro o; rw [hff]; go_simp); have hl : w.heap.size < w3.heap.size ∧ w.heap.size < w3.heap.size + 1 ∧ w.heap.size < w3.heap.size + 1 + 1 ∧ w.heap.size < w3.heap.size + 1 + 1 + 1 := (by omega); clear hcc hff)
  go_wp2_with fail
  go_ret
  refine ⟨rfl, ?_⟩
  (repeat (first | (with_reducible exact Below.refl _ _) | (with_reducible refine Below.setCell ?_ ?_ _) | (with_reducible refine Below.alloc ?_ ?_ _) | (with_reducible refine Below.drew ?_) | (with_reducible refine Below.trans ?_ (Below.mono (by assumption) ?_)) | (with_reducible refine Own.below (by assumption) ?_ ?_))) <;> (first | omega | (simp; done) | (simp <;> omega))
set_option maxRecDepth 100000 in
set_option maxHeartbeats 4000000 in
theorem vs_any (x : V2) (l : List V2) (A : Option Addr) (c : Nat) (w : World) (h : l.length ≤ 12) (hx : smallB x.1 x.2 = true) (hV : VAt w A l) :
    Calls Try.prog 9 #[.agg #[.int .i64 x.1, .int .i64 x.2], .slice A l.length c] w fun e w' => e = .returned (.bool true) ∧ Below w.heap.size w w' := by
  obtain ⟨i0, hi0, hy0, hy1, hy2⟩ := info_parts vecInfo
  have h1 : ¬ (12 : Int) < (l.length : Int) := by omega
  have h2 : decide (12 < l.length) = false := by simpa using h
  have h3 : ¬ 12 < l.length := by omega
  have HV := Lib.hid hV
  clear hV
  go_enter Try.func9, Try.ntmps9; (try simp only [List.append_eq, List.cons_append, List.nil_append])
  go_wp2_with fail
  -- own blocks: w.heap.size:2
  (go_at_call 31; refine (awake06_any _).mono ?_; rintro e w1 ⟨rfl, hb_w1⟩; have hz_w1 := hb_w1.size; (try simp at hz_w1); have hcc := fun o => hb_w1.cell (p := ⟨w.heap.size, o, none⟩) (by (try simp) <;> omega); have hff := fun o => hb_w1.frozen (p := ⟨w.heap.size, o, none⟩) (by (try simp) <;> omega); with_reducible apply cell_in (w := w1) (p := ⟨w.heap.size, 0, none⟩); (focus (rw [hcc]; go_simp; try (exact rfl))); intro cc; with_reducible apply cell_in (w := w1) (p := ⟨w.heap.size, 1, none⟩); (focus (rw [hcc]; go_simp; try (exact rfl))); intro cc; have fz : (∀ o, w1.frozen? ⟨w.heap.size, o, none⟩ = false) := (by intro o; rw [hff]; go_simp); have hl : w.heap.size < w1.heap.size ∧ w.heap.size < w1.heap.size + 1 ∧ w.heap.size < w1.heap.size + 1 + 1 ∧ w.heap.size < w1.heap.size + 1 + 1 + 1 := (by omega); clear hcc hff)
  go_wp2_with fail
  (go_at_call 36; refine (rsmall_any _ _ _).mono ?_; rintro e w2 ⟨rfl, hb_w2⟩; have hz_w2 := hb_w2.size; (try simp at hz_w2); have hcc := fun o => hb_w2.cell (p := ⟨w.heap.size, o, none⟩) (by (try simp) <;> omega); have hff := fun o => hb_w2.frozen (p := ⟨w.heap.size, o, none⟩) (by (try simp) <;> omega); with_reducible apply cell_in (w := w2) (p := ⟨w.heap.size, 0, none⟩); (focus (rw [hcc]; go_simp; try (exact rfl))); intro cc; with_reducible apply cell_in (w := w2) (p := ⟨w.heap.size, 1, none⟩); (focus (rw [hcc]; go_simp; try (exact rfl))); intro cc; have fz : (∀ o, w2.frozen? ⟨w.heap.size, o, none⟩ = false) := (by intro o; rw [hff]; go_simp); have hl : w.heap.size < w2.heap.size ∧ w.heap.size < w2.heap.size + 1 ∧ w.heap.size < w2.heap.size + 1 + 1 ∧ w.heap.size < w2.heap.size + 1 + 1 + 1 := (by omega); clear hcc hff)
  clear h1 h2 h3
  have HB2 := Lib.hid (show Below w.heap.size w w2 by (repeat (first | (with_reducible exact Below.refl _ _) | (with_reducible refine Below.setCell ?_ ?_ _) | (with_reducible refine Below.alloc ?_ ?_ _) | (with_reducible refine Below.drew ?_) | (with_reducible refine Below.trans ?_ (Below.mono (by assumption) ?_)) | (with_reducible refine Own.below (by assumption) ?_ ?_))) <;> (first | omega | (simp; done) | (simp <;> omega)))
  have hz2 : w.heap.size + 1 ≤ w2.heap.size := by omega
  go_wp2_with fail
  go_loopw [5] (fun vi wr => ∃ k : Nat, k ≤ l.length ∧ vi = .int .i64 k ∧ Hid (∀ y ∈ l.take k, smB y = true) ∧ Below w2.heap.size w2 wr) (fun vi _ => l.length - (intOf vi).toNat)
  case atStart => exact ⟨0, by omega, rfl, Lib.hid (by simp), Below.refl _ _⟩
  case round =>
    obtain ⟨k, hk, rfl, HA, hb_wr⟩ := hrel
    have hz_wr := hb_wr.size
    have HBW := Lib.hid hb_wr
    have hcc := fun o => hb_wr.cell (p := ⟨w.heap.size, o, none⟩) (by (try simp) <;> omega); have hff := fun o => hb_wr.frozen (p := ⟨w.heap.size, o, none⟩) (by (try simp) <;> omega); with_reducible apply cell_in (w := wr) (p := ⟨w.heap.size, 0, none⟩); (focus (rw [hcc]; go_simp; try (exact rfl))); intro cc; with_reducible apply cell_in (w := wr) (p := ⟨w.heap.size, 1, none⟩); (focus (rw [hcc]; go_simp; try (exact rfl))); intro cc; have fz : (∀ o, wr.frozen? ⟨w.heap.size, o, none⟩ = false) := (by intro o; rw [hff]; go_simp); have hl : w.heap.size < wr.heap.size ∧ w.heap.size < wr.heap.size + 1 ∧ w.heap.size < wr.heap.size + 1 + 1 ∧ w.heap.size < wr.heap.size + 1 + 1 + 1 := (by omega); clear hcc hff
    have i1 : (0 : Int) ≤ (k : Int) := by omega
    by_cases hlt : k < l.length
    · obtain ⟨⟨xa, xb⟩, hxk⟩ : ∃ x, l[k]? = some x := ⟨l[k], by simp⟩
      obtain ⟨g, o, rfl, hg, c0, c1⟩ := (HV.out.below (HB2.out.trans (hb_wr.mono (by omega))) (Nat.le_refl _)) k _ hxk
      have HX := Lib.hid hxk
      have i2 : (k : Int) < (l.length : Int) := by omega
      simp only at c0 c1
      clear hxk
      cases hs : smallB xa xb
      · go_wp2_with fail
        (go_at_call 36; refine (hs ▸ rsmall_any _ _ _).mono ?_; rintro e w4 ⟨rfl, hb_w4⟩; have hz_w4 := hb_w4.size; (try simp at hz_w4); have hcc := fun o => hb_w4.cell (p := ⟨w.heap.size, o, none⟩) (by (try simp) <;> omega); have hff := fun o => hb_w4.frozen (p := ⟨w.heap.size, o, none⟩) (by (try simp) <;> omega); with_reducible apply cell_in (w := w4) (p := ⟨w.heap.size, 0, none⟩); (focus (rw [hcc]; go_simp; try (exact rfl))); intro cc; with_reducible apply cell_in (w := w4) (p := ⟨w.heap.size, 1, none⟩); (focus (rw [hcc]; go_simp; try (exact rfl))); intro cc; have fz : (∀ o, w4.frozen? ⟨w.heap.size, o, none⟩ = false) := (by intro o; rw [hff]; go_simp); have hl : w.heap.size < w4.heap.size ∧ w.heap.size < w4.heap.size + 1 ∧ w.heap.size < w4.heap.size + 1 + 1 ∧ w.heap.size < w4.heap.size + 1 + 1 + 1 := (by omega); clear hcc hff)
        go_wp2_with fail
        (go_at_call 31; refine (awake06_any _).mono ?_; rintro e w5 ⟨rfl, hb_w5⟩; have hz_w5 := hb_w5.size; (try simp at hz_w5); have hcc := fun o => hb_w5.cell (p := ⟨w.heap.size, o, none⟩) (by (try simp) <;> omega); have hff := fun o => hb_w5.frozen (p := ⟨w.heap.size, o, none⟩) (by (try simp) <;> omega); with_reducible apply cell_in (w := w5) (p := ⟨w.heap.size, 0, none⟩); (focus (rw [hcc]; go_simp; try (exact rfl))); intro cc; with_reducible apply cell_in (w := w5) (p := ⟨w.heap.size, 1, none⟩); (focus (rw [hcc]; go_simp; try (exact rfl))); intro cc; have fz : (∀ o, w5.frozen? ⟨w.heap.size, o, none⟩ = false) := (by intro o; rw [hff]; go_simp); have hl : w.heap.size < w5.heap.size ∧ w.heap.size < w5.heap.size + 1 ∧ w.heap.size < w5.heap.size + 1 + 1 ∧ w.heap.size < w5.heap.size + 1 + 1 + 1 := (by omega); clear hcc hff)
        go_wp2_with fail
        go_ret
        refine ⟨rfl, ?_⟩
        have hb := HB2.out
        (repeat (first | (with_reducible exact Below.refl _ _) | (with_reducible refine Below.setCell ?_ ?_ _) | (with_reducible refine Below.alloc ?_ ?_ _) | (with_reducible refine Below.drew ?_) | (with_reducible refine Below.trans ?_ (Below.mono (by assumption) ?_)) | (with_reducible refine Own.below (by assumption) ?_ ?_))) <;> (first | omega | (simp; done) | (simp <;> omega))
      · have HA2 := Lib.hid (show ∀ y ∈ l.take (k + 1), smB y = true by
          intro y hy
          rw [List.take_add_one, HX.out] at hy
          rcases List.mem_append.1 hy with h | h
          · exact HA.out y h
          · obtain rfl : y = (xa, xb) := by simpa using h
            exact hs)
        go_wp2_with fail
        (go_at_call 36; refine (hs ▸ rsmall_any _ _ _).mono ?_; rintro e w4 ⟨rfl, hb_w4⟩; have hz_w4 := hb_w4.size; (try simp at hz_w4); have hcc := fun o => hb_w4.cell (p := ⟨w.heap.size, o, none⟩) (by (try simp) <;> omega); have hff := fun o => hb_w4.frozen (p := ⟨w.heap.size, o, none⟩) (by (try simp) <;> omega); with_reducible apply cell_in (w := w4) (p := ⟨w.heap.size, 0, none⟩); (focus (rw [hcc]; go_simp; try (exact rfl))); intro cc; with_reducible apply cell_in (w := w4) (p := ⟨w.heap.size, 1, none⟩); (focus (rw [hcc]; go_simp; try (exact rfl))); intro cc; have fz : (∀ o, w4.frozen? ⟨w.heap.size, o, none⟩ = false) := (by intro o; rw [hff]; go_simp); have hl : w.heap.size < w4.heap.size ∧ w.heap.size < w4.heap.size + 1 ∧ w.heap.size < w4.heap.size + 1 + 1 ∧ w.heap.size < w4.heap.size + 1 + 1 + 1 := (by omega); clear hcc hff)
        go_wp2_with fail
        go_roundw
        case rel => exact ⟨k + 1, by omega, by go_num, HA2, HBW.out.trans (hb_w4.mono hz_wr)⟩
        case measure => simp [intOf]; omega
    · obtain rfl : k = l.length := by omega
      rw [List.take_length] at HA
      have hsx : smB x = true := hx
      obtain ⟨hg1, hg2⟩ := lift_good hsx HA.out
      have hsame := lift_same hg1 HA.out hg2
      have hflip := lift_flip hsx HA.out
      have hdup := lift_set (l' := dupR l) hsx HA.out (dup_mem l)
      obtain ⟨⟨ya, yb⟩, hy⟩ : ∃ y, y = liftR x l := ⟨_, rfl⟩
      rw [← hy] at hg1 hg2 hsame hflip hdup
      have hLx := fun w hV => lift_any x l A c w (by omega) hV (by obtain ⟨q1, q2, q3, q4⟩ := small_bd hx; omega)
      have hLy := fun w hV => lift_any (ya, yb) l A c w (by omega) hV (by obtain ⟨q1, q2, q3, q4⟩ := small_bd hg1; simp only; omega)
      have hLf := fun w A c hV => lift_any (flipV x) (l.map flipV) A c w (by rw [List.length_map]; omega) hV (by obtain ⟨q1, q2, q3, q4⟩ := small_bd hx; unfold flipV; simp only; omega)
      have hLd := fun w A c hV => lift_any x (dupR l) A c w (by rw [dup_len]; omega) hV (by obtain ⟨q1, q2, q3, q4⟩ := small_bd hx; omega)
      have hFl := fun w hV => flips_any l A c w (by omega) hV HA.out
      rw [← hy] at hLx
      rw [hsame] at hLy
      rw [hflip] at hLf
      rw [hdup] at hLd
      simp only [List.length_map] at hLf
      have HLX := Lib.hid hLx
      have HLY := Lib.hid hLy
      have HLF := Lib.hid hLf
      have HLD := Lib.hid hLd
      have HFL := Lib.hid hFl
      have hsy : smallB ya yb = true := hg1
      have HAL := Lib.hid (allowed_iff.1 hg2)
      obtain ⟨q1, q2, q3, q4⟩ := small_bd hsy
      have HVW := Lib.hid (HV.out.below (HB2.out.trans (hb_wr.mono (by omega))) (Nat.le_refl _))
      have hDv := fun n hn w => dot_vd (ya, yb) n w hg1 (HA.out n hn)
      have HDV := Lib.hid hDv
      clear hsame hflip hdup hLx hLy hLf hLd hFl hg2 hDv hy
      go_wp2_with fail
      (go_at_call 34; refine (HLX.out _ HVW.out).mono ?_; rintro e w4 ⟨rfl, hb_w4⟩; have hz_w4 := hb_w4.size; (try simp at hz_w4); have hcc := fun o => hb_w4.cell (p := ⟨w.heap.size, o, none⟩) (by (try simp) <;> omega); have hff := fun o => hb_w4.frozen (p := ⟨w.heap.size, o, none⟩) (by (try simp) <;> omega); with_reducible apply cell_in (w := w4) (p := ⟨w.heap.size, 0, none⟩); (focus (rw [hcc]; go_simp; try (exact rfl))); intro cc; with_reducible apply cell_in (w := w4) (p := ⟨w.heap.size, 1, none⟩); (focus (rw [hcc]; go_simp; try (exact rfl))); intro cc; have fz : (∀ o, w4.frozen? ⟨w.heap.size, o, none⟩ = false) := (by intro o; rw [hff]; go_simp); have hl : w.heap.size < w4.heap.size ∧ w.heap.size < w4.heap.size + 1 ∧ w.heap.size < w4.heap.size + 1 + 1 ∧ w.heap.size < w4.heap.size + 1 + 1 + 1 := (by omega); clear hcc hff)
      have HV4 := Lib.hid (HVW.out.below hb_w4 (Nat.le_refl _))
      go_wp2_with fail
      -- own blocks besides: w4.heap.size:2
      (refine pin_wp (N := _) (Nat.le_refl _) (fun w5 hb_w5 hz_w5 => ?_); (try simp at hz_w5); have hcc := fun o => hb_w5.cell (p := ⟨w.heap.size, o, none⟩) (by (try simp) <;> omega); have hff := fun o => hb_w5.frozen (p := ⟨w.heap.size, o, none⟩) (by (try simp) <;> omega); with_reducible apply cell_in (w := w5) (p := ⟨w.heap.size, 0, none⟩); (focus (rw [hcc]; go_simp; try (exact rfl))); intro cc; with_reducible apply cell_in (w := w5) (p := ⟨w.heap.size, 1, none⟩); (focus (rw [hcc]; go_simp; try (exact rfl))); intro cc; have fz : (∀ o, w5.frozen? ⟨w.heap.size, o, none⟩ = false) := (by intro o; rw [hff]; go_simp); have hl : w.heap.size < w5.heap.size ∧ w.heap.size < w5.heap.size + 1 ∧ w.heap.size < w5.heap.size + 1 + 1 ∧ w.heap.size < w5.heap.size + 1 + 1 + 1 := (by omega); clear hcc hff; have hcc := fun o => hb_w5.cell (p := ⟨w4.heap.size, o, none⟩) (by (try simp) <;> omega); have hff := fun o => hb_w5.frozen (p := ⟨w4.heap.size, o, none⟩) (by (try simp) <;> omega); with_reducible apply cell_in (w := w5) (p := ⟨w4.heap.size, 0, none⟩); (focus (rw [hcc]; go_simp; try (exact rfl))); intro cc; with_reducible apply cell_in (w := w5) (p := ⟨w4.heap.size, 1, none⟩); (focus (rw [hcc]; go_simp; try (exact rfl))); intro cc; have fz : (∀ o, w5.frozen? ⟨w4.heap.size, o, none⟩ = false) := (by intro o; rw [hff]; go_simp); have hl : w4.heap.size < w5.heap.size ∧ w4.heap.size < w5.heap.size + 1 ∧ w4.heap.size < w5.heap.size + 1 + 1 ∧ w4.heap.size < w5.heap.size + 1 + 1 + 1 := (by omega); clear hcc hff)
      have hal5 : Below w4.heap.size w4 w5 := ((Below.refl _ _).alloc (Nat.le_refl _) _).trans (hb_w5.mono (by simp))
      have HV5 := Lib.hid (HV4.out.below hal5 (Nat.le_refl _))
      have HB5 := Lib.hid (show Below w.heap.size w w5 by (have hb := HB2.out; have hb' := HBW.out; exact hb.trans ((hb'.mono (by omega)).trans ((hb_w4.mono (by omega)).trans (hal5.mono (by omega))))))
      have hz5 : w.heap.size + 1 ≤ w5.heap.size := by omega
      have hy5 : w4.heap.size < w5.heap.size := by have := hal5.size; omega
      clear hal5 hb_w5 hb_w4 HB2 HBW HV4 HVW hb_w1 hb_w2 hb_wr
      obtain ⟨wo, rfl⟩ : ∃ wo : World, wo = wr := ⟨_, rfl⟩
      go_loopw [7, 8] (fun vb vi wr => ∃ k : Nat, k ≤ l.length ∧ vi = .int .i64 ((k : Int) - 1) ∧ wr.ownsRow w5.heap.size 23 2 vb (2 * (l.length - k)) (flatV (dupR (l.drop k))) ∧ Below w5.heap.size w5 wr) (fun _ vi _ => (intOf vi + 1).toNat)
      case atStart => exact ⟨l.length, Nat.le_refl _, rfl, by rw [Nat.sub_self, List.drop_length]; exact World.ownsRow_nil _ _ _ _, Below.refl _ _⟩
      case round =>
        obtain ⟨k, hk, rfl, hown, hb_wr⟩ := hrel
        have hz_wr := hb_wr.size
        have HBR := Lib.hid hb_wr
        have HOW := Lib.hid hown
        have hcc := fun o => hb_wr.cell (p := ⟨w.heap.size, o, none⟩) (by (try simp) <;> omega); have hff := fun o => hb_wr.frozen (p := ⟨w.heap.size, o, none⟩) (by (try simp) <;> omega); with_reducible apply cell_in (w := wr) (p := ⟨w.heap.size, 0, none⟩); (focus (rw [hcc]; go_simp; try (exact rfl))); intro cc; with_reducible apply cell_in (w := wr) (p := ⟨w.heap.size, 1, none⟩); (focus (rw [hcc]; go_simp; try (exact rfl))); intro cc; have fz : (∀ o, wr.frozen? ⟨w.heap.size, o, none⟩ = false) := (by intro o; rw [hff]; go_simp); have hl : w.heap.size < wr.heap.size ∧ w.heap.size < wr.heap.size + 1 ∧ w.heap.size < wr.heap.size + 1 + 1 ∧ w.heap.size < wr.heap.size + 1 + 1 + 1 := (by omega); clear hcc hff; have hcc := fun o => hb_wr.cell (p := ⟨w4.heap.size, o, none⟩) (by (try simp) <;> omega); have hff := fun o => hb_wr.frozen (p := ⟨w4.heap.size, o, none⟩) (by (try simp) <;> omega); with_reducible apply cell_in (w := wr) (p := ⟨w4.heap.size, 0, none⟩); (focus (rw [hcc]; go_simp; try (exact rfl))); intro cc; with_reducible apply cell_in (w := wr) (p := ⟨w4.heap.size, 1, none⟩); (focus (rw [hcc]; go_simp; try (exact rfl))); intro cc; have fz : (∀ o, wr.frozen? ⟨w4.heap.size, o, none⟩ = false) := (by intro o; rw [hff]; go_simp); have hl : w4.heap.size < wr.heap.size ∧ w4.heap.size < wr.heap.size + 1 ∧ w4.heap.size < wr.heap.size + 1 + 1 ∧ w4.heap.size < wr.heap.size + 1 + 1 + 1 := (by omega); clear hcc hff
        rcases k with _ | j
        · have e1 : 2 * (l.length - 0) = (dupR l).length := by rw [dup_len]; omega
          rw [e1, List.drop_zero] at hown
          obtain ⟨Ab, cb, rfl⟩ := own_slice hown
          have HVB := Lib.hid (own_vat hown)
          have HVR := Lib.hid (HV5.out.below hb_wr (Nat.le_refl _))
          clear hown hb_wr HOW e1
          go_wp2_with fail
          (refine pin_wp (N := _) (Nat.le_refl _) (fun w8 hb_w8 hz_w8 => ?_); (try simp at hz_w8); have hcc := fun o => hb_w8.cell (p := ⟨w.heap.size, o, none⟩) (by (try simp) <;> omega); have hff := fun o => hb_w8.frozen (p := ⟨w.heap.size, o, none⟩) (by (try simp) <;> omega); with_reducible apply cell_in (w := w8) (p := ⟨w.heap.size, 0, none⟩); (focus (rw [hcc]; go_simp; try (exact rfl))); intro cc; with_reducible apply cell_in (w := w8) (p := ⟨w.heap.size, 1, none⟩); (focus (rw [hcc]; go_simp; try (exact rfl))); intro cc; have fz : (∀ o, w8.frozen? ⟨w.heap.size, o, none⟩ = false) := (by intro o; rw [hff]; go_simp); have hl : w.heap.size < w8.heap.size ∧ w.heap.size < w8.heap.size + 1 ∧ w.heap.size < w8.heap.size + 1 + 1 ∧ w.heap.size < w8.heap.size + 1 + 1 + 1 := (by omega); clear hcc hff; have hcc := fun o => hb_w8.cell (p := ⟨w4.heap.size, o, none⟩) (by (try simp) <;> omega); have hff := fun o => hb_w8.frozen (p := ⟨w4.heap.size, o, none⟩) (by (try simp) <;> omega); with_reducible apply cell_in (w := w8) (p := ⟨w4.heap.size, 0, none⟩); (focus (rw [hcc]; go_simp; try (exact rfl))); intro cc; with_reducible apply cell_in (w := w8) (p := ⟨w4.heap.size, 1, none⟩); (focus (rw [hcc]; go_simp; try (exact rfl))); intro cc; have fz : (∀ o, w8.frozen? ⟨w4.heap.size, o, none⟩ = false) := (by intro o; rw [hff]; go_simp); have hl : w4.heap.size < w8.heap.size ∧ w4.heap.size < w8.heap.size + 1 ∧ w4.heap.size < w8.heap.size + 1 + 1 ∧ w4.heap.size < w8.heap.size + 1 + 1 + 1 := (by omega); clear hcc hff); refine wp_region_float w8.heap.size 23 (Nat.le_refl _) (fun _ => True) trivial Cl.tt (by kernel_rfl) (by simp) ?_
          have HV8 := Lib.hid (HVR.out.below hb_w8 (Nat.le_refl _))
          have HVB8 := Lib.hid (HVB.out.below hb_w8 (Nat.le_refl _))
          (first | (refine wpF_step_off (i := 0) rfl (by kernel_rfl) rfl (fun K hK => ?_); (go_simp; refine hK _ ?_; clear hK K)) | (apply wpF_step (i := 0) rfl (by kernel_rfl) rfl; (focus (intro W' hS; have hcS := hS.cells.1; have hfS := hS.cells.2; go_simp; (first | done | exact rfl | exact ⟨rfl, Below.refl _ _⟩ | (go_at_call 34; exact (HLY.out _ (HV8.out.own hS (Nat.le_refl _))).mono (fun _ _ h => ⟨h.1, h.2⟩)) | (go_at_call 38; exact (flip_sm _ _ _ hx).mono (fun _ _ h => ⟨h.1, h.2⟩)) | (go_simp; first | done | exact rfl | exact ⟨rfl, Below.refl _ _⟩)))); intro K hK; go_simp; (try go_bits); refine hK _ ?_; clear hK K) | (apply wpF_step_on (i := 0) rfl (by kernel_rfl) rfl; (focus (intro W' hS; have hcS := hS.cells.1; have hfS := hS.cells.2; go_simp; (first | done | exact rfl | exact ⟨rfl, Below.refl _ _⟩ | (go_at_call 34; exact (HLY.out _ (HV8.out.own hS (Nat.le_refl _))).mono (fun _ _ h => ⟨h.1, h.2⟩)) | (go_at_call 38; exact (flip_sm _ _ _ hx).mono (fun _ _ h => ⟨h.1, h.2⟩)) | (go_simp; first | done | exact rfl | exact ⟨rfl, Below.refl _ _⟩)))); intro K hK; go_simp; (try go_bits); refine hK _ ?_; clear hK K))
          (first | (refine wpF_step_off (i := 1) rfl (by kernel_rfl) rfl (fun K hK => ?_); (go_simp; refine hK _ ?_; clear hK K)) | (apply wpF_step (i := 1) rfl (by kernel_rfl) rfl; (focus (intro W' hS; have hcS := hS.cells.1; have hfS := hS.cells.2; go_simp; (first | done | exact rfl | exact ⟨rfl, Below.refl _ _⟩ | (go_at_call 34; exact (HLY.out _ (HV8.out.own hS (Nat.le_refl _))).mono (fun _ _ h => ⟨h.1, h.2⟩)) | (go_at_call 38; exact (flip_sm _ _ _ hx).mono (fun _ _ h => ⟨h.1, h.2⟩)) | (go_simp; first | done | exact rfl | exact ⟨rfl, Below.refl _ _⟩)))); intro K hK; go_simp; (try go_bits); refine hK _ ?_; clear hK K) | (apply wpF_step_on (i := 1) rfl (by kernel_rfl) rfl; (focus (intro W' hS; have hcS := hS.cells.1; have hfS := hS.cells.2; go_simp; (first | done | exact rfl | exact ⟨rfl, Below.refl _ _⟩ | (go_at_call 34; exact (HLY.out _ (HV8.out.own hS (Nat.le_refl _))).mono (fun _ _ h => ⟨h.1, h.2⟩)) | (go_at_call 38; exact (flip_sm _ _ _ hx).mono (fun _ _ h => ⟨h.1, h.2⟩)) | (go_simp; first | done | exact rfl | exact ⟨rfl, Below.refl _ _⟩)))); intro K hK; go_simp; (try go_bits); refine hK _ ?_; clear hK K))
          (first | (refine wpF_step_off (i := 2) rfl (by kernel_rfl) rfl (fun K hK => ?_); (go_simp; refine hK _ ?_; clear hK K)) | (apply wpF_step (i := 2) rfl (by kernel_rfl) rfl; (focus (intro W' hS; have hcS := hS.cells.1; have hfS := hS.cells.2; go_simp; (first | done | exact rfl | exact ⟨rfl, Below.refl _ _⟩ | (go_at_call 34; exact (HLY.out _ (HV8.out.own hS (Nat.le_refl _))).mono (fun _ _ h => ⟨h.1, h.2⟩)) | (go_at_call 38; exact (flip_sm _ _ _ hx).mono (fun _ _ h => ⟨h.1, h.2⟩)) | (go_simp; first | done | exact rfl | exact ⟨rfl, Below.refl _ _⟩)))); intro K hK; go_simp; (try go_bits); refine hK _ ?_; clear hK K) | (apply wpF_step_on (i := 2) rfl (by kernel_rfl) rfl; (focus (intro W' hS; have hcS := hS.cells.1; have hfS := hS.cells.2; go_simp; (first | done | exact rfl | exact ⟨rfl, Below.refl _ _⟩ | (go_at_call 34; exact (HLY.out _ (HV8.out.own hS (Nat.le_refl _))).mono (fun _ _ h => ⟨h.1, h.2⟩)) | (go_at_call 38; exact (flip_sm _ _ _ hx).mono (fun _ _ h => ⟨h.1, h.2⟩)) | (go_simp; first | done | exact rfl | exact ⟨rfl, Below.refl _ _⟩)))); intro K hK; go_simp; (try go_bits); refine hK _ ?_; clear hK K))
          (first | (refine wpF_step_off (i := 3) rfl (by kernel_rfl) rfl (fun K hK => ?_); (go_simp; refine hK _ ?_; clear hK K)) | (apply wpF_step (i := 3) rfl (by kernel_rfl) rfl; (focus (intro W' hS; have hcS := hS.cells.1; have hfS := hS.cells.2; go_simp; (first | done | exact rfl | exact ⟨rfl, Below.refl _ _⟩ | (go_at_call 34; exact (HLY.out _ (HV8.out.own hS (Nat.le_refl _))).mono (fun _ _ h => ⟨h.1, h.2⟩)) | (go_at_call 38; exact (flip_sm _ _ _ hx).mono (fun _ _ h => ⟨h.1, h.2⟩)) | (go_simp; first | done | exact rfl | exact ⟨rfl, Below.refl _ _⟩)))); intro K hK; go_simp; (try go_bits); refine hK _ ?_; clear hK K) | (apply wpF_step_on (i := 3) rfl (by kernel_rfl) rfl; (focus (intro W' hS; have hcS := hS.cells.1; have hfS := hS.cells.2; go_simp; (first | done | exact rfl | exact ⟨rfl, Below.refl _ _⟩ | (go_at_call 34; exact (HLY.out _ (HV8.out.own hS (Nat.le_refl _))).mono (fun _ _ h => ⟨h.1, h.2⟩)) | (go_at_call 38; exact (flip_sm _ _ _ hx).mono (fun _ _ h => ⟨h.1, h.2⟩)) | (go_simp; first | done | exact rfl | exact ⟨rfl, Below.refl _ _⟩)))); intro K hK; go_simp; (try go_bits); refine hK _ ?_; clear hK K))
          (first | (refine wpF_step_off (i := 4) rfl (by kernel_rfl) rfl (fun K hK => ?_); (go_simp; refine hK _ ?_; clear hK K)) | (apply wpF_step (i := 4) rfl (by kernel_rfl) rfl; (focus (intro W' hS; have hcS := hS.cells.1; have hfS := hS.cells.2; go_simp; (first | done | exact rfl | exact ⟨rfl, Below.refl _ _⟩ | (go_at_call 34; exact (HLY.out _ (HV8.out.own hS (Nat.le_refl _))).mono (fun _ _ h => ⟨h.1, h.2⟩)) | (go_at_call 38; exact (flip_sm _ _ _ hx).mono (fun _ _ h => ⟨h.1, h.2⟩)) | (go_simp; first | done | exact rfl | exact ⟨rfl, Below.refl _ _⟩)))); intro K hK; go_simp; (try go_bits); refine hK _ ?_; clear hK K) | (apply wpF_step_on (i := 4) rfl (by kernel_rfl) rfl; (focus (intro W' hS; have hcS := hS.cells.1; have hfS := hS.cells.2; go_simp; (first | done | exact rfl | exact ⟨rfl, Below.refl _ _⟩ | (go_at_call 34; exact (HLY.out _ (HV8.out.own hS (Nat.le_refl _))).mono (fun _ _ h => ⟨h.1, h.2⟩)) | (go_at_call 38; exact (flip_sm _ _ _ hx).mono (fun _ _ h => ⟨h.1, h.2⟩)) | (go_simp; first | done | exact rfl | exact ⟨rfl, Below.refl _ _⟩)))); intro K hK; go_simp; (try go_bits); refine hK _ ?_; clear hK K))
          (first | (refine wpF_step_off (i := 5) rfl (by kernel_rfl) rfl (fun K hK => ?_); (go_simp; refine hK _ ?_; clear hK K)) | (apply wpF_step (i := 5) rfl (by kernel_rfl) rfl; (focus (intro W' hS; have hcS := hS.cells.1; have hfS := hS.cells.2; go_simp; (first | done | exact rfl | exact ⟨rfl, Below.refl _ _⟩ | (go_at_call 34; exact (HLY.out _ (HV8.out.own hS (Nat.le_refl _))).mono (fun _ _ h => ⟨h.1, h.2⟩)) | (go_at_call 38; exact (flip_sm _ _ _ hx).mono (fun _ _ h => ⟨h.1, h.2⟩)) | (go_simp; first | done | exact rfl | exact ⟨rfl, Below.refl _ _⟩)))); intro K hK; go_simp; (try go_bits); refine hK _ ?_; clear hK K) | (apply wpF_step_on (i := 5) rfl (by kernel_rfl) rfl; (focus (intro W' hS; have hcS := hS.cells.1; have hfS := hS.cells.2; go_simp; (first | done | exact rfl | exact ⟨rfl, Below.refl _ _⟩ | (go_at_call 34; exact (HLY.out _ (HV8.out.own hS (Nat.le_refl _))).mono (fun _ _ h => ⟨h.1, h.2⟩)) | (go_at_call 38; exact (flip_sm _ _ _ hx).mono (fun _ _ h => ⟨h.1, h.2⟩)) | (go_simp; first | done | exact rfl | exact ⟨rfl, Below.refl _ _⟩)))); intro K hK; go_simp; (try go_bits); refine hK _ ?_; clear hK K))
          (first | (refine wpF_step_off (i := 6) rfl (by kernel_rfl) rfl (fun K hK => ?_); (go_simp; refine hK _ ?_; clear hK K)) | (apply wpF_step (i := 6) rfl (by kernel_rfl) rfl; (focus (intro W' hS; have hcS := hS.cells.1; have hfS := hS.cells.2; go_simp; (first | done | exact rfl | exact ⟨rfl, Below.refl _ _⟩ | (go_at_call 34; exact (HLY.out _ (HV8.out.own hS (Nat.le_refl _))).mono (fun _ _ h => ⟨h.1, h.2⟩)) | (go_at_call 38; exact (flip_sm _ _ _ hx).mono (fun _ _ h => ⟨h.1, h.2⟩)) | (go_simp; first | done | exact rfl | exact ⟨rfl, Below.refl _ _⟩)))); intro K hK; go_simp; (try go_bits); refine hK _ ?_; clear hK K) | (apply wpF_step_on (i := 6) rfl (by kernel_rfl) rfl; (focus (intro W' hS; have hcS := hS.cells.1; have hfS := hS.cells.2; go_simp; (first | done | exact rfl | exact ⟨rfl, Below.refl _ _⟩ | (go_at_call 34; exact (HLY.out _ (HV8.out.own hS (Nat.le_refl _))).mono (fun _ _ h => ⟨h.1, h.2⟩)) | (go_at_call 38; exact (flip_sm _ _ _ hx).mono (fun _ _ h => ⟨h.1, h.2⟩)) | (go_simp; first | done | exact rfl | exact ⟨rfl, Below.refl _ _⟩)))); intro K hK; go_simp; (try go_bits); refine hK _ ?_; clear hK K))
          (first | (refine wpF_step_off (i := 7) rfl (by kernel_rfl) rfl (fun K hK => ?_); (go_simp; refine hK _ ?_; clear hK K)) | (apply wpF_step (i := 7) rfl (by kernel_rfl) rfl; (focus (intro W' hS; have hcS := hS.cells.1; have hfS := hS.cells.2; go_simp; (first | done | exact rfl | exact ⟨rfl, Below.refl _ _⟩ | (go_at_call 34; exact (HLY.out _ (HV8.out.own hS (Nat.le_refl _))).mono (fun _ _ h => ⟨h.1, h.2⟩)) | (go_at_call 38; exact (flip_sm _ _ _ hx).mono (fun _ _ h => ⟨h.1, h.2⟩)) | (go_simp; first | done | exact rfl | exact ⟨rfl, Below.refl _ _⟩)))); intro K hK; go_simp; (try go_bits); refine hK _ ?_; clear hK K) | (apply wpF_step_on (i := 7) rfl (by kernel_rfl) rfl; (focus (intro W' hS; have hcS := hS.cells.1; have hfS := hS.cells.2; go_simp; (first | done | exact rfl | exact ⟨rfl, Below.refl _ _⟩ | (go_at_call 34; exact (HLY.out _ (HV8.out.own hS (Nat.le_refl _))).mono (fun _ _ h => ⟨h.1, h.2⟩)) | (go_at_call 38; exact (flip_sm _ _ _ hx).mono (fun _ _ h => ⟨h.1, h.2⟩)) | (go_simp; first | done | exact rfl | exact ⟨rfl, Below.refl _ _⟩)))); intro K hK; go_simp; (try go_bits); refine hK _ ?_; clear hK K))
          (first | (refine wpF_step_off (i := 8) rfl (by kernel_rfl) rfl (fun K hK => ?_); (go_simp; refine hK _ ?_; clear hK K)) | (apply wpF_step (i := 8) rfl (by kernel_rfl) rfl; (focus (intro W' hS; have hcS := hS.cells.1; have hfS := hS.cells.2; go_simp; (first | done | exact rfl | exact ⟨rfl, Below.refl _ _⟩ | (go_at_call 34; exact (HLY.out _ (HV8.out.own hS (Nat.le_refl _))).mono (fun _ _ h => ⟨h.1, h.2⟩)) | (go_at_call 38; exact (flip_sm _ _ _ hx).mono (fun _ _ h => ⟨h.1, h.2⟩)) | (go_simp; first | done | exact rfl | exact ⟨rfl, Below.refl _ _⟩)))); intro K hK; go_simp; (try go_bits); refine hK _ ?_; clear hK K) | (apply wpF_step_on (i := 8) rfl (by kernel_rfl) rfl; (focus (intro W' hS; have hcS := hS.cells.1; have hfS := hS.cells.2; go_simp; (first | done | exact rfl | exact ⟨rfl, Below.refl _ _⟩ | (go_at_call 34; exact (HLY.out _ (HV8.out.own hS (Nat.le_refl _))).mono (fun _ _ h => ⟨h.1, h.2⟩)) | (go_at_call 38; exact (flip_sm _ _ _ hx).mono (fun _ _ h => ⟨h.1, h.2⟩)) | (go_simp; first | done | exact rfl | exact ⟨rfl, Below.refl _ _⟩)))); intro K hK; go_simp; (try go_bits); refine hK _ ?_; clear hK K))
          (first | (refine wpF_step_off (i := 11) rfl (by kernel_rfl) rfl (fun K hK => ?_); (go_simp; refine hK _ ?_; clear hK K)) | (apply wpF_step (i := 11) rfl (by kernel_rfl) rfl; (focus (intro W' hS; have hcS := hS.cells.1; have hfS := hS.cells.2; go_simp; (first | done | exact rfl | exact ⟨rfl, Below.refl _ _⟩ | (go_simp; first | done | exact rfl | exact ⟨rfl, Below.refl _ _⟩)))); intro K hK; go_simp; (try go_bits); refine hK _ ?_; clear hK K) | (apply wpF_step_on (i := 11) rfl (by kernel_rfl) rfl; (focus (intro W' hS; have hcS := hS.cells.1; have hfS := hS.cells.2; go_simp; (first | done | exact rfl | exact ⟨rfl, Below.refl _ _⟩ | (go_simp; first | done | exact rfl | exact ⟨rfl, Below.refl _ _⟩)))); intro K hK; go_simp; (try go_bits); refine hK _ ?_; clear hK K))
          apply wpF_call_on (i := 9) rfl (by kernel_rfl) (by kernel_rfl) rfl; intro W hF hS; have hcS := hS.1.cells.1; have hfS := hS.1.cells.2; go_simp; (go_at_call 39; refine (HFL.out _ (HV8.out.own hS.1 (Nat.le_refl _))).mono ?_; rintro e w9 ⟨hb_w9, Af, cf, rfl, hvf⟩; refine XPost.mk _ (fun W => VAt W Af (l.map flipV)) hb_w9 (hvf) (fun _ _ hh hb => hh.below hb (Nat.le_refl _)) ?_); clear hb_w9 hcS hfS hS hF
          intro K hK; go_simp; (try go_bits); refine hK _ ?_; clear hK K
          apply wpF_call_on (i := 10) rfl (by kernel_rfl) (by kernel_rfl) rfl; intro W hF hS; have hcS := hS.1.cells.1; have hfS := hS.1.cells.2; go_simp; (go_at_call 34; refine (HLF.out _ Af cf hF).mono ?_; rintro e wa ⟨rfl, hb_wa⟩; refine XPost.mk _ (fun _ => True) hb_wa (trivial) (Cl.tt) ?_); clear hb_wa hcS hfS hS hF
          intro K hK; go_simp; (try go_bits); refine hK _ ?_; clear hK K
          (first | (refine wpF_step_off (i := 12) rfl (by kernel_rfl) rfl (fun K hK => ?_); (go_simp; refine hK _ ?_; clear hK K)) | (apply wpF_step (i := 12) rfl (by kernel_rfl) rfl; (focus (intro W' hS; have hcS := hS.cells.1; have hfS := hS.cells.2; go_simp; (first | done | exact rfl | exact ⟨rfl, Below.refl _ _⟩ | (go_at_call 34; exact (HLD.out _ _ _ (HVB8.out.own hS (Nat.le_refl _))).mono (fun _ _ h => ⟨h.1, h.2⟩)) | (go_at_call 38; exact (flip_sm _ _ _ hsy).mono (fun _ _ h => ⟨h.1, h.2⟩)) | (go_simp; first | done | exact rfl | exact ⟨rfl, Below.refl _ _⟩)))); intro K hK; go_simp; (try go_bits); refine hK _ ?_; clear hK K) | (apply wpF_step_on (i := 12) rfl (by kernel_rfl) rfl; (focus (intro W' hS; have hcS := hS.cells.1; have hfS := hS.cells.2; go_simp; (first | done | exact rfl | exact ⟨rfl, Below.refl _ _⟩ | (go_at_call 34; exact (HLD.out _ _ _ (HVB8.out.own hS (Nat.le_refl _))).mono (fun _ _ h => ⟨h.1, h.2⟩)) | (go_at_call 38; exact (flip_sm _ _ _ hsy).mono (fun _ _ h => ⟨h.1, h.2⟩)) | (go_simp; first | done | exact rfl | exact ⟨rfl, Below.refl _ _⟩)))); intro K hK; go_simp; (try go_bits); refine hK _ ?_; clear hK K))
          (first | (refine wpF_step_off (i := 13) rfl (by kernel_rfl) rfl (fun K hK => ?_); (go_simp; refine hK _ ?_; clear hK K)) | (apply wpF_step (i := 13) rfl (by kernel_rfl) rfl; (focus (intro W' hS; have hcS := hS.cells.1; have hfS := hS.cells.2; go_simp; (first | done | exact rfl | exact ⟨rfl, Below.refl _ _⟩ | (go_at_call 34; exact (HLD.out _ _ _ (HVB8.out.own hS (Nat.le_refl _))).mono (fun _ _ h => ⟨h.1, h.2⟩)) | (go_at_call 38; exact (flip_sm _ _ _ hsy).mono (fun _ _ h => ⟨h.1, h.2⟩)) | (go_simp; first | done | exact rfl | exact ⟨rfl, Below.refl _ _⟩)))); intro K hK; go_simp; (try go_bits); refine hK _ ?_; clear hK K) | (apply wpF_step_on (i := 13) rfl (by kernel_rfl) rfl; (focus (intro W' hS; have hcS := hS.cells.1; have hfS := hS.cells.2; go_simp; (first | done | exact rfl | exact ⟨rfl, Below.refl _ _⟩ | (go_at_call 34; exact (HLD.out _ _ _ (HVB8.out.own hS (Nat.le_refl _))).mono (fun _ _ h => ⟨h.1, h.2⟩)) | (go_at_call 38; exact (flip_sm _ _ _ hsy).mono (fun _ _ h => ⟨h.1, h.2⟩)) | (go_simp; first | done | exact rfl | exact ⟨rfl, Below.refl _ _⟩)))); intro K hK; go_simp; (try go_bits); refine hK _ ?_; clear hK K))
          (first | (refine wpF_step_off (i := 14) rfl (by kernel_rfl) rfl (fun K hK => ?_); (go_simp; refine hK _ ?_; clear hK K)) | (apply wpF_step (i := 14) rfl (by kernel_rfl) rfl; (focus (intro W' hS; have hcS := hS.cells.1; have hfS := hS.cells.2; go_simp; (first | done | exact rfl | exact ⟨rfl, Below.refl _ _⟩ | (go_at_call 34; exact (HLD.out _ _ _ (HVB8.out.own hS (Nat.le_refl _))).mono (fun _ _ h => ⟨h.1, h.2⟩)) | (go_at_call 38; exact (flip_sm _ _ _ hsy).mono (fun _ _ h => ⟨h.1, h.2⟩)) | (go_simp; first | done | exact rfl | exact ⟨rfl, Below.refl _ _⟩)))); intro K hK; go_simp; (try go_bits); refine hK _ ?_; clear hK K) | (apply wpF_step_on (i := 14) rfl (by kernel_rfl) rfl; (focus (intro W' hS; have hcS := hS.cells.1; have hfS := hS.cells.2; go_simp; (first | done | exact rfl | exact ⟨rfl, Below.refl _ _⟩ | (go_at_call 34; exact (HLD.out _ _ _ (HVB8.out.own hS (Nat.le_refl _))).mono (fun _ _ h => ⟨h.1, h.2⟩)) | (go_at_call 38; exact (flip_sm _ _ _ hsy).mono (fun _ _ h => ⟨h.1, h.2⟩)) | (go_simp; first | done | exact rfl | exact ⟨rfl, Below.refl _ _⟩)))); intro K hK; go_simp; (try go_bits); refine hK _ ?_; clear hK K))
          (first | (refine wpF_step_off (i := 15) rfl (by kernel_rfl) rfl (fun K hK => ?_); (go_simp; refine hK _ ?_; clear hK K)) | (apply wpF_step (i := 15) rfl (by kernel_rfl) rfl; (focus (intro W' hS; have hcS := hS.cells.1; have hfS := hS.cells.2; go_simp; (first | done | exact rfl | exact ⟨rfl, Below.refl _ _⟩ | (go_at_call 34; exact (HLD.out _ _ _ (HVB8.out.own hS (Nat.le_refl _))).mono (fun _ _ h => ⟨h.1, h.2⟩)) | (go_at_call 38; exact (flip_sm _ _ _ hsy).mono (fun _ _ h => ⟨h.1, h.2⟩)) | (go_simp; first | done | exact rfl | exact ⟨rfl, Below.refl _ _⟩)))); intro K hK; go_simp; (try go_bits); refine hK _ ?_; clear hK K) | (apply wpF_step_on (i := 15) rfl (by kernel_rfl) rfl; (focus (intro W' hS; have hcS := hS.cells.1; have hfS := hS.cells.2; go_simp; (first | done | exact rfl | exact ⟨rfl, Below.refl _ _⟩ | (go_at_call 34; exact (HLD.out _ _ _ (HVB8.out.own hS (Nat.le_refl _))).mono (fun _ _ h => ⟨h.1, h.2⟩)) | (go_at_call 38; exact (flip_sm _ _ _ hsy).mono (fun _ _ h => ⟨h.1, h.2⟩)) | (go_simp; first | done | exact rfl | exact ⟨rfl, Below.refl _ _⟩)))); intro K hK; go_simp; (try go_bits); refine hK _ ?_; clear hK K))
          (first | (refine wpF_step_off (i := 16) rfl (by kernel_rfl) rfl (fun K hK => ?_); (go_simp; refine hK _ ?_; clear hK K)) | (apply wpF_step (i := 16) rfl (by kernel_rfl) rfl; (focus (intro W' hS; have hcS := hS.cells.1; have hfS := hS.cells.2; go_simp; (first | done | exact rfl | exact ⟨rfl, Below.refl _ _⟩ | (go_at_call 34; exact (HLD.out _ _ _ (HVB8.out.own hS (Nat.le_refl _))).mono (fun _ _ h => ⟨h.1, h.2⟩)) | (go_at_call 38; exact (flip_sm _ _ _ hsy).mono (fun _ _ h => ⟨h.1, h.2⟩)) | (go_simp; first | done | exact rfl | exact ⟨rfl, Below.refl _ _⟩)))); intro K hK; go_simp; (try go_bits); refine hK _ ?_; clear hK K) | (apply wpF_step_on (i := 16) rfl (by kernel_rfl) rfl; (focus (intro W' hS; have hcS := hS.cells.1; have hfS := hS.cells.2; go_simp; (first | done | exact rfl | exact ⟨rfl, Below.refl _ _⟩ | (go_at_call 34; exact (HLD.out _ _ _ (HVB8.out.own hS (Nat.le_refl _))).mono (fun _ _ h => ⟨h.1, h.2⟩)) | (go_at_call 38; exact (flip_sm _ _ _ hsy).mono (fun _ _ h => ⟨h.1, h.2⟩)) | (go_simp; first | done | exact rfl | exact ⟨rfl, Below.refl _ _⟩)))); intro K hK; go_simp; (try go_bits); refine hK _ ?_; clear hK K))
          (first | (refine wpF_step_off (i := 17) rfl (by kernel_rfl) rfl (fun K hK => ?_); (go_simp; refine hK _ ?_; clear hK K)) | (apply wpF_step (i := 17) rfl (by kernel_rfl) rfl; (focus (intro W' hS; have hcS := hS.cells.1; have hfS := hS.cells.2; go_simp; (first | done | exact rfl | exact ⟨rfl, Below.refl _ _⟩ | (go_at_call 34; exact (HLD.out _ _ _ (HVB8.out.own hS (Nat.le_refl _))).mono (fun _ _ h => ⟨h.1, h.2⟩)) | (go_at_call 38; exact (flip_sm _ _ _ hsy).mono (fun _ _ h => ⟨h.1, h.2⟩)) | (go_simp; first | done | exact rfl | exact ⟨rfl, Below.refl _ _⟩)))); intro K hK; go_simp; (try go_bits); refine hK _ ?_; clear hK K) | (apply wpF_step_on (i := 17) rfl (by kernel_rfl) rfl; (focus (intro W' hS; have hcS := hS.cells.1; have hfS := hS.cells.2; go_simp; (first | done | exact rfl | exact ⟨rfl, Below.refl _ _⟩ | (go_at_call 34; exact (HLD.out _ _ _ (HVB8.out.own hS (Nat.le_refl _))).mono (fun _ _ h => ⟨h.1, h.2⟩)) | (go_at_call 38; exact (flip_sm _ _ _ hsy).mono (fun _ _ h => ⟨h.1, h.2⟩)) | (go_simp; first | done | exact rfl | exact ⟨rfl, Below.refl _ _⟩)))); intro K hK; go_simp; (try go_bits); refine hK _ ?_; clear hK K))
          (first | (refine wpF_step_off (i := 18) rfl (by kernel_rfl) rfl (fun K hK => ?_); (go_simp; refine hK _ ?_; clear hK K)) | (apply wpF_step (i := 18) rfl (by kernel_rfl) rfl; (focus (intro W' hS; have hcS := hS.cells.1; have hfS := hS.cells.2; go_simp; (first | done | exact rfl | exact ⟨rfl, Below.refl _ _⟩ | (go_at_call 34; exact (HLD.out _ _ _ (HVB8.out.own hS (Nat.le_refl _))).mono (fun _ _ h => ⟨h.1, h.2⟩)) | (go_at_call 38; exact (flip_sm _ _ _ hsy).mono (fun _ _ h => ⟨h.1, h.2⟩)) | (go_simp; first | done | exact rfl | exact ⟨rfl, Below.refl _ _⟩)))); intro K hK; go_simp; (try go_bits); refine hK _ ?_; clear hK K) | (apply wpF_step_on (i := 18) rfl (by kernel_rfl) rfl; (focus (intro W' hS; have hcS := hS.cells.1; have hfS := hS.cells.2; go_simp; (first | done | exact rfl | exact ⟨rfl, Below.refl _ _⟩ | (go_at_call 34; exact (HLD.out _ _ _ (HVB8.out.own hS (Nat.le_refl _))).mono (fun _ _ h => ⟨h.1, h.2⟩)) | (go_at_call 38; exact (flip_sm _ _ _ hsy).mono (fun _ _ h => ⟨h.1, h.2⟩)) | (go_simp; first | done | exact rfl | exact ⟨rfl, Below.refl _ _⟩)))); intro K hK; go_simp; (try go_bits); refine hK _ ?_; clear hK K))
          (first | (refine wpF_step_off (i := 19) rfl (by kernel_rfl) rfl (fun K hK => ?_); (go_simp; refine hK _ ?_; clear hK K)) | (apply wpF_step (i := 19) rfl (by kernel_rfl) rfl; (focus (intro W' hS; have hcS := hS.cells.1; have hfS := hS.cells.2; go_simp; (first | done | exact rfl | exact ⟨rfl, Below.refl _ _⟩ | (go_at_call 34; exact (HLD.out _ _ _ (HVB8.out.own hS (Nat.le_refl _))).mono (fun _ _ h => ⟨h.1, h.2⟩)) | (go_at_call 38; exact (flip_sm _ _ _ hsy).mono (fun _ _ h => ⟨h.1, h.2⟩)) | (go_simp; first | done | exact rfl | exact ⟨rfl, Below.refl _ _⟩)))); intro K hK; go_simp; (try go_bits); refine hK _ ?_; clear hK K) | (apply wpF_step_on (i := 19) rfl (by kernel_rfl) rfl; (focus (intro W' hS; have hcS := hS.cells.1; have hfS := hS.cells.2; go_simp; (first | done | exact rfl | exact ⟨rfl, Below.refl _ _⟩ | (go_at_call 34; exact (HLD.out _ _ _ (HVB8.out.own hS (Nat.le_refl _))).mono (fun _ _ h => ⟨h.1, h.2⟩)) | (go_at_call 38; exact (flip_sm _ _ _ hsy).mono (fun _ _ h => ⟨h.1, h.2⟩)) | (go_simp; first | done | exact rfl | exact ⟨rfl, Below.refl _ _⟩)))); intro K hK; go_simp; (try go_bits); refine hK _ ?_; clear hK K))
          (first | (refine wpF_step_off (i := 20) rfl (by kernel_rfl) rfl (fun K hK => ?_); (go_simp; refine hK _ ?_; clear hK K)) | (apply wpF_step (i := 20) rfl (by kernel_rfl) rfl; (focus (intro W' hS; have hcS := hS.cells.1; have hfS := hS.cells.2; go_simp; (first | done | exact rfl | exact ⟨rfl, Below.refl _ _⟩ | (go_at_call 34; exact (HLD.out _ _ _ (HVB8.out.own hS (Nat.le_refl _))).mono (fun _ _ h => ⟨h.1, h.2⟩)) | (go_at_call 38; exact (flip_sm _ _ _ hsy).mono (fun _ _ h => ⟨h.1, h.2⟩)) | (go_simp; first | done | exact rfl | exact ⟨rfl, Below.refl _ _⟩)))); intro K hK; go_simp; (try go_bits); refine hK _ ?_; clear hK K) | (apply wpF_step_on (i := 20) rfl (by kernel_rfl) rfl; (focus (intro W' hS; have hcS := hS.cells.1; have hfS := hS.cells.2; go_simp; (first | done | exact rfl | exact ⟨rfl, Below.refl _ _⟩ | (go_at_call 34; exact (HLD.out _ _ _ (HVB8.out.own hS (Nat.le_refl _))).mono (fun _ _ h => ⟨h.1, h.2⟩)) | (go_at_call 38; exact (flip_sm _ _ _ hsy).mono (fun _ _ h => ⟨h.1, h.2⟩)) | (go_simp; first | done | exact rfl | exact ⟨rfl, Below.refl _ _⟩)))); intro K hK; go_simp; (try go_bits); refine hK _ ?_; clear hK K))
          (first | (refine wpF_step_off (i := 21) rfl (by kernel_rfl) rfl (fun K hK => ?_); (go_simp; refine hK _ ?_; clear hK K)) | (apply wpF_step (i := 21) rfl (by kernel_rfl) rfl; (focus (intro W' hS; have hcS := hS.cells.1; have hfS := hS.cells.2; go_simp; (first | done | exact rfl | exact ⟨rfl, Below.refl _ _⟩ | (go_at_call 34; exact (HLD.out _ _ _ (HVB8.out.own hS (Nat.le_refl _))).mono (fun _ _ h => ⟨h.1, h.2⟩)) | (go_at_call 38; exact (flip_sm _ _ _ hsy).mono (fun _ _ h => ⟨h.1, h.2⟩)) | (go_simp; first | done | exact rfl | exact ⟨rfl, Below.refl _ _⟩)))); intro K hK; go_simp; (try go_bits); refine hK _ ?_; clear hK K) | (apply wpF_step_on (i := 21) rfl (by kernel_rfl) rfl; (focus (intro W' hS; have hcS := hS.cells.1; have hfS := hS.cells.2; go_simp; (first | done | exact rfl | exact ⟨rfl, Below.refl _ _⟩ | (go_at_call 34; exact (HLD.out _ _ _ (HVB8.out.own hS (Nat.le_refl _))).mono (fun _ _ h => ⟨h.1, h.2⟩)) | (go_at_call 38; exact (flip_sm _ _ _ hsy).mono (fun _ _ h => ⟨h.1, h.2⟩)) | (go_simp; first | done | exact rfl | exact ⟨rfl, Below.refl _ _⟩)))); intro K hK; go_simp; (try go_bits); refine hK _ ?_; clear hK K))
          (first | (refine wpF_step_off (i := 22) rfl (by kernel_rfl) rfl (fun K hK => ?_); (go_simp; refine hK _ ?_; clear hK K)) | (apply wpF_step (i := 22) rfl (by kernel_rfl) rfl; (focus (intro W' hS; have hcS := hS.cells.1; have hfS := hS.cells.2; go_simp; (first | done | exact rfl | exact ⟨rfl, Below.refl _ _⟩ | (go_at_call 34; exact (HLD.out _ _ _ (HVB8.out.own hS (Nat.le_refl _))).mono (fun _ _ h => ⟨h.1, h.2⟩)) | (go_at_call 38; exact (flip_sm _ _ _ hsy).mono (fun _ _ h => ⟨h.1, h.2⟩)) | (go_simp; first | done | exact rfl | exact ⟨rfl, Below.refl _ _⟩)))); intro K hK; go_simp; (try go_bits); refine hK _ ?_; clear hK K) | (apply wpF_step_on (i := 22) rfl (by kernel_rfl) rfl; (focus (intro W' hS; have hcS := hS.cells.1; have hfS := hS.cells.2; go_simp; (first | done | exact rfl | exact ⟨rfl, Below.refl _ _⟩ | (go_at_call 34; exact (HLD.out _ _ _ (HVB8.out.own hS (Nat.le_refl _))).mono (fun _ _ h => ⟨h.1, h.2⟩)) | (go_at_call 38; exact (flip_sm _ _ _ hsy).mono (fun _ _ h => ⟨h.1, h.2⟩)) | (go_simp; first | done | exact rfl | exact ⟨rfl, Below.refl _ _⟩)))); intro K hK; go_simp; (try go_bits); refine hK _ ?_; clear hK K))
          refine wpF_done (by kernel_rfl) ?_
          intro wb hF_wb hSG
          have hz_wb := hSG.1.1
          have hb_wb := hSG.1.2
          clear hSG
          have hcc := fun o => hb_wb.cell (p := ⟨w.heap.size, o, none⟩) (by (try simp) <;> omega); have hff := fun o => hb_wb.frozen (p := ⟨w.heap.size, o, none⟩) (by (try simp) <;> omega); with_reducible apply cell_in (w := wb) (p := ⟨w.heap.size, 0, none⟩); (focus (rw [hcc]; go_simp; try (exact rfl))); intro cc; with_reducible apply cell_in (w := wb) (p := ⟨w.heap.size, 1, none⟩); (focus (rw [hcc]; go_simp; try (exact rfl))); intro cc; have fz : (∀ o, wb.frozen? ⟨w.heap.size, o, none⟩ = false) := (by intro o; rw [hff]; go_simp); have hl : w.heap.size < wb.heap.size ∧ w.heap.size < wb.heap.size + 1 ∧ w.heap.size < wb.heap.size + 1 + 1 ∧ w.heap.size < wb.heap.size + 1 + 1 + 1 := (by omega); clear hcc hff; have hcc := fun o => hb_wb.cell (p := ⟨w4.heap.size, o, none⟩) (by (try simp) <;> omega); have hff := fun o => hb_wb.frozen (p := ⟨w4.heap.size, o, none⟩) (by (try simp) <;> omega); with_reducible apply cell_in (w := wb) (p := ⟨w4.heap.size, 0, none⟩); (focus (rw [hcc]; go_simp; try (exact rfl))); intro cc; with_reducible apply cell_in (w := wb) (p := ⟨w4.heap.size, 1, none⟩); (focus (rw [hcc]; go_simp; try (exact rfl))); intro cc; have fz : (∀ o, wb.frozen? ⟨w4.heap.size, o, none⟩ = false) := (by intro o; rw [hff]; go_simp); have hl : w4.heap.size < wb.heap.size ∧ w4.heap.size < wb.heap.size + 1 ∧ w4.heap.size < wb.heap.size + 1 + 1 ∧ w4.heap.size < wb.heap.size + 1 + 1 + 1 := (by omega); clear hcc hff
          (try simp only [List.drop_succ_cons, List.drop_zero])
          go_wp2_with fail
          go_ret
          refine ⟨ret_bool ?_, ?_⟩
          · simp
          · have hb := HB5.out; have hb2 := HBR.out
            (repeat (first | (with_reducible exact Below.refl _ _) | (with_reducible refine Below.setCell ?_ ?_ _) | (with_reducible refine Below.alloc ?_ ?_ _) | (with_reducible refine Below.drew ?_) | (with_reducible refine Below.trans ?_ (Below.mono (by assumption) ?_)) | (with_reducible refine Own.below (by assumption) ?_ ?_))) <;> (first | omega | (simp; done) | (simp <;> omega))
        · obtain ⟨⟨na, nb⟩, hxk⟩ : ∃ x, l[j]? = some x := ⟨l[j], by simp⟩
          obtain ⟨g, o, rfl, hg, e0, e1⟩ := HV5.out j _ hxk
          have c0 : wr.cell? ⟨g, o + j * 2, none⟩ = some (.int .i64 na) := by rw [hb_wr.cell (by simp; omega)]; exact e0
          have c1 : wr.cell? ⟨g, o + j * 2 + 1, none⟩ = some (.int .i64 nb) := by rw [hb_wr.cell (by simp; omega)]; exact e1
          have lg : g < wr.heap.size := by omega
          clear e0 e1
          have HX := Lib.hid hxk
          have hin := List.mem_of_getElem? hxk
          obtain ⟨E, hE⟩ : ∃ E, E = vd (ya, yb) (na, nb) := ⟨_, rfl⟩
          have E0 : 0 ≤ E := by rw [hE]; exact HAL.out _ hin
          have hdot := fun w => HDV.out _ hin w
          rw [← hE] at hdot
          have HDT := Lib.hid hdot
          have i1 : (0 : Int) ≤ (j : Int) := by omega
          have i2 : (j : Int) < (l.length : Int) := by omega
          have i3 : (j : Int) ≤ 1000 := by omega
          rw [show (((j + 1 : Nat) : Int) - 1) = (j : Int) by omega]
          clear hxk hin hE hdot hown hb_wr
          go_wp2_with fail
          refine wp_region_warm (Own wr.heap.size wr) (by kernel_rfl) (by kernel_rfl) (Own.refl (Nat.le_refl _)).drew ?_
          repeat (first | (refine wpWarm_step_off rfl (fun K hK => ?_); (go_simp; refine hK _ ?_; clear hK K)) | (apply wpWarm_step rfl; (focus (intro W' hS; have hcS := hS.cells.1; have hfS := hS.cells.2; go_simp; (first | done | exact rfl | exact ⟨rfl, hS⟩ | (go_at_call 37; exact (HDT.out _).mono (fun _ _ h => ⟨h.1, hS.call h.2⟩)) | (go_simp; exact rfl)))); (intro K hK; go_simp; (try go_bits); refine hK _ ?_; clear hK K)) | (apply wpWarm_step_on rfl; (focus (intro W' hS; have hcS := hS.cells.1; have hfS := hS.cells.2; go_simp; (first | done | exact rfl | exact ⟨rfl, hS⟩ | (go_at_call 37; exact (HDT.out _).mono (fun _ _ h => ⟨h.1, hS.call h.2⟩)) | (go_simp; exact rfl)))); (intro K hK; go_simp; (try go_bits); refine hK _ ?_; clear hK K)))
          refine wpWarm_nil ?_
          intro w7 hO7
          have hb_w7 := hO7.2
          have hz_w7 := hO7.1
          have HO7 := Lib.hid (own_below HOW.out hb_w7 (Nat.le_refl _))
          have HB7 := Lib.hid (HBR.out.trans (hb_w7.mono hz_wr))
          have d0 : w7.cell? ⟨g, o + j * 2, none⟩ = some (.int .i64 na) := by rw [hb_w7.cell (by simp; omega)]; exact c0
          have d1 : w7.cell? ⟨g, o + j * 2 + 1, none⟩ = some (.int .i64 nb) := by rw [hb_w7.cell (by simp; omega)]; exact c1
          clear hO7 c0 c1
          have hcc := fun o => hb_w7.cell (p := ⟨w.heap.size, o, none⟩) (by (try simp) <;> omega); have hff := fun o => hb_w7.frozen (p := ⟨w.heap.size, o, none⟩) (by (try simp) <;> omega); with_reducible apply cell_in (w := w7) (p := ⟨w.heap.size, 0, none⟩); (focus (rw [hcc]; go_simp; try (exact rfl))); intro cc; with_reducible apply cell_in (w := w7) (p := ⟨w.heap.size, 1, none⟩); (focus (rw [hcc]; go_simp; try (exact rfl))); intro cc; have fz : (∀ o, w7.frozen? ⟨w.heap.size, o, none⟩ = false) := (by intro o; rw [hff]; go_simp); have hl : w.heap.size < w7.heap.size ∧ w.heap.size < w7.heap.size + 1 ∧ w.heap.size < w7.heap.size + 1 + 1 ∧ w.heap.size < w7.heap.size + 1 + 1 + 1 := (by omega); clear hcc hff; have hcc := fun o => hb_w7.cell (p := ⟨w4.heap.size, o, none⟩) (by (try simp) <;> omega); have hff := fun o => hb_w7.frozen (p := ⟨w4.heap.size, o, none⟩) (by (try simp) <;> omega); with_reducible apply cell_in (w := w7) (p := ⟨w4.heap.size, 0, none⟩); (focus (rw [hcc]; go_simp; try (exact rfl))); intro cc; with_reducible apply cell_in (w := w7) (p := ⟨w4.heap.size, 1, none⟩); (focus (rw [hcc]; go_simp; try (exact rfl))); intro cc; have fz : (∀ o, w7.frozen? ⟨w4.heap.size, o, none⟩ = false) := (by intro o; rw [hff]; go_simp); have hl : w4.heap.size < w7.heap.size ∧ w4.heap.size < w7.heap.size + 1 ∧ w4.heap.size < w7.heap.size + 1 + 1 ∧ w4.heap.size < w7.heap.size + 1 + 1 + 1 := (by omega); clear hcc hff
          clear hb_w7
          go_wp2_with fail
          have ne1 : u7.ownBlock ≠ some g := fun e => by have := (HO7.out.lt _ e).1; omega
          have l7 : g < w7.heap.size := by omega
          have l8 : g < w7.heap.size + 1 := by omega
          go_region_held3 (fun w' => w'.cell? ⟨g, o + j * 2, none⟩ = some (.int .i64 na) ∧ w'.cell? ⟨g, o + j * 2 + 1, none⟩ = some (.int .i64 nb))
            (first
              | go_keep
              | (go_split_ands
                 refine ⟨?_, ?_⟩
                 · (rw [hgrow.cell_far _ (by simp; omega) (Ne.symm ne1)]; assumption)
                 · (rw [hgrow.cell_far _ (by simp; omega) (Ne.symm ne1)]; assumption)))
            ((refine step_append_lies _ (by rfl) _ _ _ (by rfl) w5.heap.size 23 i0 _ 2 16 Try.underlying44 hi0 hy0 hy1 hy2 rfl (by first | rfl | omega | (unfold maxLen; omega) | (simp [Value.oneCell', cellsOfV]; done) | (simp; omega)) u7 (2 * (l.length - (j + 1))) (flatV (dupR (l.drop (j + 1)))) (by rfl) ((HO7.out.alloc _).drew)
                ⟨w7.heap.size, 0, none⟩ 2 2 (cellsOfV (na, nb) ++ cellsOfV (na, nb)) (by rfl) (by rfl) (World.news_of_block (cs := (cellsOfV (na, nb) ++ cellsOfV (na, nb)).toArray) (t := 23) (fr := (0, 0)) (heap_alloc_new w7 _)) (by first | rfl | omega | (unfold maxLen; omega) | (simp [Value.oneCell', cellsOfV]; done) | (simp; omega))
                (by first | rfl | omega | (unfold maxLen; omega) | (simp [Value.oneCell', cellsOfV]; done) | (simp; omega)) (by first | rfl | omega | (unfold maxLen; omega) | (simp [Value.oneCell', cellsOfV]; done) | (simp; omega)) (by first | rfl | omega | (unfold maxLen; omega) | (simp [Value.oneCell', cellsOfV]; done) | (simp; omega)) (by first | rfl | omega | (unfold maxLen; omega) | (simp [Value.oneCell', cellsOfV]; done) | (simp; omega)) (w7.heap.size + 1) (by first | rfl | omega | (unfold maxLen; omega) | (simp [Value.oneCell', cellsOfV]; done) | (simp; omega)) ?_; intro gg cap w8 hown8 hgrow hat hlt8))
          have hbel8 : Below w5.heap.size w5 w8 := ((HB7.out.alloc (by omega) _).drew).grown hgrow (by first | (simp; done) | (simp; omega)) (own_fresh HO7.out)
          clear hgrow
          go_wp2_with fail
          go_roundw
          case rel =>
            have hd : l.drop j = (na, nb) :: l.drop (j + 1) := by
              have h1 := HX.out
              have h2 := (List.getElem?_eq_some_iff.1 h1)
              obtain ⟨h3, h4⟩ := h2
              rw [List.drop_eq_getElem_cons h3, h4]
            refine ⟨j, by omega, by go_num, ?_, hbel8⟩
            rw [hd, dup_cons, flatV_app, show 2 * (l.length - j) = 2 * (l.length - (j + 1)) + 2 by omega]
            exact hown8
          case measure => simp [intOf]
theorem walk (w : World) (a0 : Array Value) (n0 : Nat) (w0 : RowIs Try.prog w n0 23 a0.toList) (a1 : Option Addr) (len1 cap1 n1 : Nat) (w1 : RowIs Try.prog w n1 44 [.slice a1 len1 cap1]) :
    Calls Try.prog 9 #[.agg a0, .slice a1 len1 cap1] w fun e w' => e = .returned (.bool true) ∧ Below w.heap.size w w' := by
  obtain ⟨v1, v2, e, hv, _⟩ := row_vec w0
  obtain ⟨l⟩ := a0
  simp only at e
  subst e
  obtain ⟨hm, l, rfl, hV, _⟩ := vs_open w1
  by_cases h : 12 < l.length
  · exact vs_long (v1, v2) a1 _ cap1 w h hm
  · cases hx : smallB v1 v2
    · exact vs_big (v1, v2) a1 _ cap1 w (by omega) hx
    · exact vs_any (v1, v2) l a1 cap1 w (by omega) hx hV
theorem own : ownKnob Try.prog.godebug = none := by kernel_rfl
theorem laidOut : laidOutB Try.prog = true := by kernel_rfl
set_option maxRecDepth 100000 in
theorem lifted (os : Os) (started : os.Started) (H : Type) (enc : TypeId × Value → H) :
    ReturnsInHanded {} Try.checked os 9 .any (Rows.vectorSafeSpec.pre6 enc Try.prog Try.f9 Rows.vectorSafeRow.domain false) (Rows.vectorSafeSpec.post enc Try.prog Try.f9 false true false false) := by
  refine returnsInHanded_of_change (C := Try.checked) own started (by kernel_rfl) Try.func9
    (ChangeSpec.witness6 (enc := enc) (C := Try.checked) false ⟨#[], #[.agg #[.int .i64 0, .int .i64 0], .slice none 0 0], []⟩ 8 (by kernel_rfl) (by kernel_rfl) (by kernel_rfl) (by kernel_rfl)) ?_
  intro W base args ds gs before hval0 hW hcnd _
  have hval : ∀ (j : Nat) t v, Try.f9.params[j]? = some t → args[j]? = some v → Value.okWide Try.prog W .any base t v := hval0
  have hW' := hW
  obtain ⟨p, q, hA0, hV, rfl, hfz, hnd⟩ := hW
  have hA : DataW.TrodAll enc Try.prog W 0 (fun _ => true) true Try.f9.params.toList args.toList ds p := hA0
  rw [Try.params9] at hA hval
  obtain ⟨v0, vs0, d0, ds0, p0, q0, hargs, rfl, rfl, h0, r0⟩ := trodAll_cons hA
  obtain ⟨v1, vs1, d1, ds1, p1, q1, rfl, rfl, rfl, h1, r1⟩ := trodAll_cons r0
  obtain ⟨rfl, rfl, rfl⟩ := trodAll_nil r1
  obtain rfl : args = #[v0, v1] := by cases args; simp_all
  obtain ⟨rfl, rfl⟩ := trodVars_none hV
  obtain ⟨a0, rfl, hs0⟩ := okWide_struct Try.underlying23 (hval 0 23 v0 rfl rfl)
  have k0 := h0
  have lt0 : ∀ x ∈ p0, x.block < W.heap.size := by obtain ⟨m, hm⟩ := k0; exact DataW.trod_lt m _ _ _ hm
  obtain ⟨n0, w0⟩ : ∃ n, RowIs Try.prog W n 23 a0.toList := by obtain ⟨fuel, hf⟩ := h0; exact ⟨fuel, rowIs_of_trod fuel _ _ _ hf⟩
  obtain ⟨a1, len1, cap1, rfl⟩ := okWide_slice Try.underlying44 (hval 1 44 v1 rfl rfl)
  have k1 := h1
  have lt1 : ∀ x ∈ p1, x.block < W.heap.size := by obtain ⟨m, hm⟩ := k1; exact DataW.trod_lt m _ _ _ hm
  obtain ⟨n1, w1⟩ : ∃ n, RowIs Try.prog W n 44 [.slice a1 len1 cap1] := by obtain ⟨fuel, hf⟩ := h1; exact ⟨fuel, rowIs_of_trod fuel _ _ _ hf⟩
  clear hA0 hval0
  refine (walk W a0 n0 w0 a1 len1 cap1 n1 w1).mono fun e W' ⟨he, bel⟩ => ?_
  subst he
  exact ⟨_, rfl, _, _, _, [], _, [], hW', trodAll_mk1 (shut_bool Try.underlying4 _), (trodAll_cons_mk (Below.trod laidOut (by kernel_rfl) (of_decide_eq_true (by kernel_rfl)) k0 bel lt0) (trodAll_cons_mk (Below.trod laidOut (by kernel_rfl) (of_decide_eq_true (by kernel_rfl)) k1 bel lt1) trodAll_mk0)), rfl, bel.frame _, fun h => by cases h⟩

theorem over : Rows.vectorSafeRow.holds Try.pinned (OpenSpec.ofChange Rows.vectorSafeSpec) :=
  OpenClaim.holds_of_wide 9 Try.f9 rfl rfl rfl rfl rfl rfl rfl ⟨rfl, rfl, rfl, rfl, rfl⟩ rfl rfl rfl rfl rfl (by kernel_rfl) Try.func9 (by kernel_rfl)
    (of_decide_eq_true (by kernel_rfl)) (by unfold Func.isWrapper; first | (rw [if_pos (by decide +kernel)]; kernel_rfl) | (rw [if_neg (by decide +kernel)]; exact ⟨rfl, rfl⟩))
    (fun os started H enc _ => lifted os started H enc)

theorem proved : Rows.VectorSafeSaid := over
#print axioms proved
end Go.Proofs.Ytkoejgpnlncgaaa.lawVS
