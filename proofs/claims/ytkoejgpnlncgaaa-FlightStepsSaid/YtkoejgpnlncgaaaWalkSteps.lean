/- The walk of FlightSteps. -/
import Derived.Test.YtkoejgpnlncgaaaAwakeJ
import Derived.Test.YtkoejgpnlncgaaaOpenV
import Derived.Lib.Hide
namespace Go.Proofs.Ytkoejgpnlncgaaa
open Go.RowKit
/-- The state of the chain after k flights, one coordinate. -/
def StepAt (p v g : Int) (k : Nat) (X U : Int) : Prop := X = p + k * v + k * k * g ∧ U = v + 2 * k * g
theorem step0 (p v g : Int) : StepAt p v g 0 p v := ⟨by simp, by simp⟩
theorem step_next {p v g : Int} {k : Nat} {X U : Int} (h : StepAt p v g k X U) : StepAt p v g (k + 1) (X + U + g) (U + g * 2) := by
  obtain ⟨h1, h2⟩ := h
  constructor
  · rw [h1, h2]
    have e : ((k + 1 : Nat) : Int) = (k : Int) + 1 := by omega
    rw [e]
    generalize (k : Int) = z
    have : (z + 1) * v = z * v + v := by rw [Int.add_mul, Int.one_mul]
    have e2 : (z + 1) * (z + 1) * g = z * z * g + 2 * z * g + g := by
      rw [Int.add_mul, Int.mul_add, Int.one_mul, Int.mul_one, Int.add_mul, Int.add_mul, Int.add_mul]
      have : 2 * z * g = z * g + z * g := by rw [Int.mul_assoc]; omega
      omega
    omega
  · rw [h2]
    have e : ((k + 1 : Nat) : Int) = (k : Int) + 1 := by omega
    rw [e, Int.mul_add, Int.add_mul]
    omega
theorem step_bd {p v g : Int} {k : Nat} {X U : Int} (h : StepAt p v g k X U) (hk : k ≤ 60) (p1 : -65536 ≤ p) (p2 : p ≤ 65536) (v1 : -4096 ≤ v) (v2 : v ≤ 4096) (g1 : -256 ≤ g) (g2 : g ≤ 256) :
    (-8388608 ≤ X ∧ X ≤ 8388608) ∧ (-262144 ≤ U ∧ U ≤ 262144) := by
  obtain ⟨rfl, rfl⟩ := h
  have m1 := mul_bd k v 60 4096 (by omega) (by omega) v1 v2
  have m0 := mul_bd k k 60 60 (by omega) (by omega) (by omega) (by omega)
  have m2 := mul_bd (k * k) g 3600 256 (by omega) (by omega) g1 g2
  have m3 := mul_bd (2 * k) g 120 256 (by omega) (by omega) g1 g2
  omega
theorem valid_mk {px py vx vy hx hy : Int} (h1 : -8388608 ≤ px ∧ px ≤ 8388608) (h2 : -8388608 ≤ py ∧ py ≤ 8388608) (h3 : -262144 ≤ vx ∧ vx ≤ 262144) (h4 : -262144 ≤ vy ∧ vy ≤ 262144) (h5 : -4096 ≤ hx ∧ hx ≤ 4096) (h6 : -4096 ≤ hy ∧ hy ≤ 4096) : validB px py vx vy hx hy = true := by
  simp only [validB, withinB, Bool.and_eq_true, decide_eq_true_eq]
  omega
/-- What the loop's world is: below the block b of x as W; x holds its six numbers. -/
def SW (W wr : World) (b : Nat) (X Y U V hx hy : Int) : Prop :=
  Below b W wr ∧ b < wr.heap.size ∧ (∀ o, wr.frozen? ⟨b, o, none⟩ = false) ∧
  wr.cell? ⟨b, 0, none⟩ = some (.int .i64 X) ∧ wr.cell? ⟨b, 1, none⟩ = some (.int .i64 Y) ∧ wr.cell? ⟨b, 2, none⟩ = some (.int .i64 U) ∧
  wr.cell? ⟨b, 3, none⟩ = some (.int .i64 V) ∧ wr.cell? ⟨b, 4, none⟩ = some (.int .i64 hx) ∧ wr.cell? ⟨b, 5, none⟩ = some (.int .i64 hy)
set_option maxRecDepth 100000 in
set_option maxHeartbeats 4000000 in
theorem steps_any (px py vx vy hx hy n : Int) (w : World) :
    Calls Try.prog 3 #[.agg #[.int .i64 px, .int .i64 py, .int .i64 vx, .int .i64 vy, .int .i64 hx, .int .i64 hy], .int .i64 n] w fun e w' => e = .returned (.bool true) ∧ Below w.heap.size w w' := by
  go_enter Try.func3, Try.ntmps3; (try simp only [List.append_eq, List.cons_append, List.nil_append])
  go_wp2_with fail
  -- own blocks: w.heap.size:6
  (go_at_call 13; refine (awake10_any _).mono ?_; rintro e w1 ⟨rfl, hb_w1⟩; have hz_w1 := hb_w1.size; (try simp at hz_w1); have hcc := fun o => hb_w1.cell (p := ⟨w.heap.size, o, none⟩) (by (try simp) <;> omega); have hff := fun o => hb_w1.frozen (p := ⟨w.heap.size, o, none⟩) (by (try simp) <;> omega); apply cell_in (w := w1) (p := ⟨w.heap.size, 0, none⟩); (focus (rw [hcc]; go_simp; try (exact rfl))); intro cc; apply cell_in (w := w1) (p := ⟨w.heap.size, 1, none⟩); (focus (rw [hcc]; go_simp; try (exact rfl))); intro cc; apply cell_in (w := w1) (p := ⟨w.heap.size, 2, none⟩); (focus (rw [hcc]; go_simp; try (exact rfl))); intro cc; apply cell_in (w := w1) (p := ⟨w.heap.size, 3, none⟩); (focus (rw [hcc]; go_simp; try (exact rfl))); intro cc; apply cell_in (w := w1) (p := ⟨w.heap.size, 4, none⟩); (focus (rw [hcc]; go_simp; try (exact rfl))); intro cc; apply cell_in (w := w1) (p := ⟨w.heap.size, 5, none⟩); (focus (rw [hcc]; go_simp; try (exact rfl))); intro cc; have fz : (∀ o, w1.frozen? ⟨w.heap.size, o, none⟩ = false) := (by intro o; rw [hff]; go_simp); have hl : w.heap.size < w1.heap.size := (by omega); clear hcc hff)
  go_wp2_with fail
  all_goals try ((go_at_call 13; refine (awake10_any _).mono ?_; rintro e w2 ⟨rfl, hb_w2⟩; have hz_w2 := hb_w2.size; (try simp at hz_w2); have hcc := fun o => hb_w2.cell (p := ⟨w.heap.size, o, none⟩) (by (try simp) <;> omega); have hff := fun o => hb_w2.frozen (p := ⟨w.heap.size, o, none⟩) (by (try simp) <;> omega); apply cell_in (w := w2) (p := ⟨w.heap.size, 0, none⟩); (focus (rw [hcc]; go_simp; try (exact rfl))); intro cc; apply cell_in (w := w2) (p := ⟨w.heap.size, 1, none⟩); (focus (rw [hcc]; go_simp; try (exact rfl))); intro cc; apply cell_in (w := w2) (p := ⟨w.heap.size, 2, none⟩); (focus (rw [hcc]; go_simp; try (exact rfl))); intro cc; apply cell_in (w := w2) (p := ⟨w.heap.size, 3, none⟩); (focus (rw [hcc]; go_simp; try (exact rfl))); intro cc; apply cell_in (w := w2) (p := ⟨w.heap.size, 4, none⟩); (focus (rw [hcc]; go_simp; try (exact rfl))); intro cc; apply cell_in (w := w2) (p := ⟨w.heap.size, 5, none⟩); (focus (rw [hcc]; go_simp; try (exact rfl))); intro cc; have fz : (∀ o, w2.frozen? ⟨w.heap.size, o, none⟩ = false) := (by intro o; rw [hff]; go_simp); have hl : w.heap.size < w2.heap.size := (by omega); clear hcc hff); go_wp2_with fail; go_ret; refine ⟨rfl, ?_⟩; (repeat (first | (with_reducible exact Below.refl _ _) | (with_reducible refine Below.setCell ?_ ?_ _) | (with_reducible refine Below.alloc ?_ ?_ _) | (with_reducible refine Below.drew ?_) | (with_reducible refine Below.trans ?_ (Below.mono (by assumption) ?_)) | (with_reducible refine Own.below (by assumption) ?_ ?_))) <;> (first | omega | (simp; done) | (simp <;> omega)))
  have HB := hb_w1
  clear hb_w1
  obtain ⟨m, rfl⟩ := Int.eq_ofNat_of_zero_le (show 0 ≤ n by omega)
  go_loopw [6] (fun i wr => ∃ (k : Nat) (X Y U V : Int), k ≤ m ∧ i = .int .i64 k ∧ Hid (StepAt px vx hx k X U) ∧ Hid (StepAt py vy hy k Y V) ∧ SW w1 wr w1.heap.size X Y U V hx hy) (fun i _ => m - (intOf i).toNat)
  case atStart => exact ⟨0, px, py, vx, vy, Nat.zero_le _, rfl, step0 _ _ _, step0 _ _ _, (Below.refl _ _).alloc (Nat.le_refl _) _, by simp, by intro o; go_simp, by go_simp, by go_simp, by go_simp, by go_simp, by go_simp, by go_simp⟩
  case round =>
    obtain ⟨k, X, Y, U, V, hk, rfl, HX, HY, hbb, hlt, fzx, c0, c1, c2, c3, c4, c5⟩ := hrel
    have bX := step_bd HX.out (by omega) (by omega) (by omega) (by omega) (by omega) (by omega) (by omega)
    have bY := step_bd HY.out (by omega) (by omega) (by omega) (by omega) (by omega) (by omega) (by omega)
    have hv : validB X Y U V hx hy = true := valid_mk bX.1 bY.1 bX.2 bY.2 (by omega) (by omega)
    have HV := Lib.hid hv
    clear hv bX bY
    have hcm := fun o => hbb.cell (p := ⟨w.heap.size, o, none⟩) (by (try simp) <;> omega)
    have hfm := fun o => hbb.frozen (p := ⟨w.heap.size, o, none⟩) (by (try simp) <;> omega)
    have hl1 : w.heap.size < wr.heap.size := by omega
    by_cases hlt : k < m
    · go_wp2_with fail
      (go_at_call 14; refine (end_in _ _ _ _ _ _ _ HV.out).mono ?_; rintro e w2 ⟨rfl, hb_w2⟩)
      have hz_w2 := hb_w2.size
      -- own blocks: w.heap.size:6, w1.heap.size:6
      have hcc := fun o => hb_w2.cell (p := ⟨w.heap.size, o, none⟩) (by (try simp) <;> omega); have hff := fun o => hb_w2.frozen (p := ⟨w.heap.size, o, none⟩) (by (try simp) <;> omega); apply cell_in (w := w2) (p := ⟨w.heap.size, 0, none⟩); (focus (rw [hcc]; go_simp; try (exact rfl))); intro cc; apply cell_in (w := w2) (p := ⟨w.heap.size, 1, none⟩); (focus (rw [hcc]; go_simp; try (exact rfl))); intro cc; apply cell_in (w := w2) (p := ⟨w.heap.size, 2, none⟩); (focus (rw [hcc]; go_simp; try (exact rfl))); intro cc; apply cell_in (w := w2) (p := ⟨w.heap.size, 3, none⟩); (focus (rw [hcc]; go_simp; try (exact rfl))); intro cc; apply cell_in (w := w2) (p := ⟨w.heap.size, 4, none⟩); (focus (rw [hcc]; go_simp; try (exact rfl))); intro cc; apply cell_in (w := w2) (p := ⟨w.heap.size, 5, none⟩); (focus (rw [hcc]; go_simp; try (exact rfl))); intro cc; have fz : (∀ o, w2.frozen? ⟨w.heap.size, o, none⟩ = false) := (by intro o; rw [hff]; go_simp); have hl : w.heap.size < w2.heap.size := (by omega); clear hcc hff; have hcc := fun o => hb_w2.cell (p := ⟨w1.heap.size, o, none⟩) (by (try simp) <;> omega); have hff := fun o => hb_w2.frozen (p := ⟨w1.heap.size, o, none⟩) (by (try simp) <;> omega); apply cell_in (w := w2) (p := ⟨w1.heap.size, 0, none⟩); (focus (rw [hcc]; go_simp; try (exact rfl))); intro cc; apply cell_in (w := w2) (p := ⟨w1.heap.size, 1, none⟩); (focus (rw [hcc]; go_simp; try (exact rfl))); intro cc; apply cell_in (w := w2) (p := ⟨w1.heap.size, 2, none⟩); (focus (rw [hcc]; go_simp; try (exact rfl))); intro cc; apply cell_in (w := w2) (p := ⟨w1.heap.size, 3, none⟩); (focus (rw [hcc]; go_simp; try (exact rfl))); intro cc; apply cell_in (w := w2) (p := ⟨w1.heap.size, 4, none⟩); (focus (rw [hcc]; go_simp; try (exact rfl))); intro cc; apply cell_in (w := w2) (p := ⟨w1.heap.size, 5, none⟩); (focus (rw [hcc]; go_simp; try (exact rfl))); intro cc; have fz : (∀ o, w2.frozen? ⟨w1.heap.size, o, none⟩ = false) := (by intro o; rw [hff]; go_simp); have hl : w1.heap.size < w2.heap.size := (by omega); clear hcc hff
      go_wp2_with fail
      go_roundw
      case rel =>
        refine ⟨k + 1, X + U + hx, Y + V + hy, U + hx * 2, V + hy * 2, by omega, by go_num, step_next HX.out, step_next HY.out, ?_, ?_, ?_, ?_, ?_, ?_, ?_, ?_, ?_⟩
        · clear c0 c1 c2 c3 c4 c5; (repeat (first | (with_reducible exact Below.refl _ _) | (with_reducible refine Below.setCell ?_ ?_ _) | (with_reducible refine Below.alloc ?_ ?_ _) | (with_reducible refine Below.drew ?_) | (with_reducible refine Below.trans ?_ (Below.mono (by assumption) ?_)) | (with_reducible refine Own.below (by assumption) ?_ ?_))) <;> (first | omega | (simp; done) | (simp <;> omega))
        · (try simp) <;> omega
        · intro o; go_simp
        all_goals go_simp
      case measure => simp [intOf]; omega
    · obtain rfl : k = m := by omega
      obtain ⟨rfl, rfl⟩ := HX.out
      obtain ⟨rfl, rfl⟩ := HY.out
      clear HX HY HV
      obtain ⟨m1, m2⟩ := mul_bd k vx 60 4096 (by omega) (by omega) (by omega) (by omega)
      obtain ⟨m3, m4⟩ := mul_bd k vy 60 4096 (by omega) (by omega) (by omega) (by omega)
      obtain ⟨m5, m6⟩ := mul_bd k k 60 60 (by omega) (by omega) (by omega) (by omega)
      obtain ⟨m7, m8⟩ := mul_bd (k * k) hx 3600 256 (by omega) (by omega) (by omega) (by omega)
      obtain ⟨m9, m10⟩ := mul_bd (k * k) hy 3600 256 (by omega) (by omega) (by omega) (by omega)
      obtain ⟨m11, m12⟩ := mul_bd (2 * k) hx 120 256 (by omega) (by omega) (by omega) (by omega)
      obtain ⟨m13, m14⟩ := mul_bd (2 * k) hy 120 256 (by omega) (by omega) (by omega) (by omega)
      go_wp2_with fail
      go_ret
      refine ⟨?_, ?_⟩
      · rfl
      · (repeat (first | (with_reducible exact Below.refl _ _) | (with_reducible refine Below.setCell ?_ ?_ _) | (with_reducible refine Below.alloc ?_ ?_ _) | (with_reducible refine Below.drew ?_) | (with_reducible refine Below.trans ?_ (Below.mono (by assumption) ?_)) | (with_reducible refine Own.below (by assumption) ?_ ?_))) <;> (first | omega | (simp; done) | (simp <;> omega))
end Go.Proofs.Ytkoejgpnlncgaaa
