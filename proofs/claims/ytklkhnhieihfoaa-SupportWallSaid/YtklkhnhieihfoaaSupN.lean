/- Plain law of SupportWall: the mirrored plan, and that the ball does not come nearer. -/
import Derived.Test.YtklkhnhieihfoaaSupJ
namespace Go.Proofs.Ytklkhnhieihfoaa
open Go Go.RowKit
set_option linter.unusedVariables false
def flipP (P : Pl) : Pl := { P with p1 := -P.p1, v1 := -P.v1, h1 := -P.h1, f1 := -P.f1, b1 := -P.b1, ns := P.ns.map flipV }
theorem within_neg (x y n : Int) : withinB (-x) y n = withinB x y n := bool_iff (by simp only [withinB, decide_eq_true_eq]; omega)
theorem kept_neg (x y : Int) : keptI (-x) y (-x) = -keptI x y x ∧ keptI (-x) y y = keptI x y y := by
  have h : smallB (-x) y = smallB x y := sm_flip (x, y)
  unfold keptI
  rw [h]
  split <;> simp
theorem bud_flip (P : Pl) : budR (flipP P) = budR P := by
  unfold budR flipP
  simp only
  have e : -P.v1 + -P.h1 = -(P.v1 + P.h1) := by omega
  rw [e, (kept_neg _ _).1, (kept_neg _ _).2, Int.neg_mul_neg, Int.neg_mul_neg]
theorem fit_flip (P : Pl) : fitB (flipP P) = fitB P := by
  unfold fitB validB flipP
  simp only [within_neg]
  congr 1
  rw [List.all_map]
  congr 1
  funext n
  exact within_neg n.1 n.2 2097152
theorem pay_flip (Q : Pl) : payR (flipP Q) = flipP (payR Q) := by
  unfold payR
  rw [bud_flip]
  split
  · simp [flipP]
  · rfl
theorem fin_flip (e1 e2 M : Int) : ∀ s : Nat, finA (-e1) e2 M s = flipV (finA e1 e2 M s)
  | 0 => by simp [finA, flipV]
  | s + 1 => by
    rw [finA_succ, finA_succ]
    have e : (-e1 * (s : Int)).tdiv 64 = -(e1 * s).tdiv 64 := by rw [Int.neg_mul, Int.neg_tdiv]
    rw [e, Int.neg_mul_neg, fin_flip e1 e2 M s]
    split
    · simp [flipV]
    · rfl
theorem finR_flip (P : Pl) : finR (flipP P) = (flipV (finR P).1, flipV (finR P).2) := by
  unfold finR
  rw [fit_flip, bud_flip]
  split
  · have hd : (flipP P).d = P.d := rfl
    rw [hd]
    split
    · simp [flipP, flipV]
    · have e1 : (flipP P).v1 + (flipP P).h1 * 2 = -(P.v1 + P.h1 * 2) := by simp only [flipP]; omega
      have e2 : (flipP P).p1 + (flipP P).v1 + (flipP P).h1 = -(P.p1 + P.v1 + P.h1) := by simp only [flipP]; omega
      rw [e1, e2, fin_flip]
      rfl
  · simp [flipV]
theorem wall_flip {p1 p2 v1 v2 h1 h2 key : Int} {n : V2} (hp : -1048576 ≤ p1 ∧ p1 ≤ 1048576 ∧ -1048576 ≤ p2 ∧ p2 ≤ 1048576) (hh : -1024 ≤ h1 ∧ h1 ≤ 1024 ∧ -1024 ≤ h2 ∧ h2 ≤ 1024) (hb : -16384 ≤ v1 ∧ v1 ≤ 16384 ∧ -16384 ≤ v2 ∧ v2 ≤ 16384) (hn : -1048576 ≤ n.1 ∧ n.1 ≤ 1048576 ∧ -1048576 ≤ n.2 ∧ n.2 ≤ 1048576) :
    pressR (startP (-p1) p2 (-v1) v2 (-h1) h2) [key] [flipV n] = flipP (pressR (startP p1 p2 v1 v2 h1 h2) [key] [n]) := by
  rw [press_first (start_fit hp hh hb).2 (within_mk (by omega)), press_first (start_fit (p1 := -p1) (v1 := -v1) (h1 := -h1) (by omega) (by omega) (by omega)).2 (within_mk (by simp only [flipV]; omega)), ← pay_flip]
  congr 1
  have hl : ∀ x ∈ [n], smB x = true := fun x hx => by
    simp only [List.mem_cons, List.not_mem_nil, or_false] at hx
    rw [hx]; exact small_of (by omega)
  have q1 := lift_flip (x := (v1, v2)) (l := [n]) (small_of (show _ by simp only; omega)) hl
  have q2 := lift_flip (x := (h1, h2)) (l := [n]) (small_of (show _ by simp only; omega)) hl
  have q1' : liftR (-v1, v2) [flipV n] = flipV (liftR (v1, v2) [n]) := q1
  have q2' : liftR (-h1, h2) [flipV n] = flipV (liftR (h1, h2) [n]) := q2
  simp only [flipV] at q1' q2'
  simp only [liftP, withR, startP, flipP, flipV, List.map_cons, List.map_nil]
  rw [q1', q2']
theorem wall_held {p1 p2 h1 h2 b1 b2 key : Int} {n : V2} {S : Pl} (h : Stair p1 p2 h1 h2 b1 b2 key n 1 S) (hf : fitB S = true) (hd : S.d = true) : finR S = ((p1, p2), (0, 0)) := by
  unfold finR
  rw [if_pos hf, if_pos hd, h.p.1, h.p.2]
theorem wall_free {p1 p2 v1 v2 h1 h2 key : Int} {n : V2} (hp : -1048576 ≤ p1 ∧ p1 ≤ 1048576 ∧ -1048576 ≤ p2 ∧ p2 ≤ 1048576) (hh : -1024 ≤ h1 ∧ h1 ≤ 1024 ∧ -1024 ≤ h2 ∧ h2 ≤ 1024) (hb : -16384 ≤ v1 ∧ v1 ≤ 16384 ∧ -16384 ≤ v2 ∧ v2 ≤ 16384) (hn : -1048576 ≤ n.1 ∧ n.1 ≤ 1048576 ∧ -1048576 ≤ n.2 ∧ n.2 ≤ 1048576) (hd : (pressR (startP p1 p2 v1 v2 h1 h2) [key] [n]).d = false) :
    0 ≤ vd ((pressR (startP p1 p2 v1 v2 h1 h2) [key] [n]).v1, (pressR (startP p1 p2 v1 v2 h1 h2) [key] [n]).v2) n ∧ 0 ≤ vd ((pressR (startP p1 p2 v1 v2 h1 h2) [key] [n]).h1, (pressR (startP p1 p2 v1 v2 h1 h2) [key] [n]).h2) n ∧
    (finR (pressR (startP p1 p2 v1 v2 h1 h2) [key] [n])).1 = (p1 + (pressR (startP p1 p2 v1 v2 h1 h2) [key] [n]).v1 + (pressR (startP p1 p2 v1 v2 h1 h2) [key] [n]).h1, p2 + (pressR (startP p1 p2 v1 v2 h1 h2) [key] [n]).v2 + (pressR (startP p1 p2 v1 v2 h1 h2) [key] [n]).h2) := by
  have hS := stair_one (key := key) hp hh hb hn
  have hf := hS.fit hp hh hb hn
  refine ⟨?_, ?_, by unfold finR; rw [if_pos hf, if_neg (by rw [hd]; simp), hS.p.1, hS.p.2]⟩
  · rw [press_first (start_fit hp hh hb).2 (within_mk (by omega))] at hd ⊢
    rcases pay_cases (liftP (withR (startP p1 p2 v1 v2 h1 h2) ([key], [n]))) with e | e
    · rw [e]
      have hl : ∀ x ∈ [n], smB x = true := fun x hx => by
        simp only [List.mem_cons, List.not_mem_nil, or_false] at hx
        rw [hx]; exact small_of (by omega)
      have := (lift_good (x := (v1, v2)) (small_of (show _ by simp only; omega)) hl).2
      exact allowed_iff.1 this n (by simp)
    · rw [e] at hd; cases hd
  · rw [press_first (start_fit hp hh hb).2 (within_mk (by omega))] at hd ⊢
    rcases pay_cases (liftP (withR (startP p1 p2 v1 v2 h1 h2) ([key], [n]))) with e | e
    · rw [e]
      have hl : ∀ x ∈ [n], smB x = true := fun x hx => by
        simp only [List.mem_cons, List.not_mem_nil, or_false] at hx
        rw [hx]; exact small_of (by omega)
      have := (lift_good (x := (h1, h2)) (small_of (show _ by simp only; omega)) hl).2
      exact allowed_iff.1 this n (by simp)
    · rw [e] at hd; cases hd
end Go.Proofs.Ytklkhnhieihfoaa
