/- Plain laws of Press and Finish: bounds, the stairs, the mirror. -/
import Derived.Test.YtklkhnhieihfoaaSupF
import Derived.Test.YtklkhnhieihfoaaSupE
namespace Go.Proofs.Ytklkhnhieihfoaa
open Go Go.RowKit
set_option linter.unusedVariables false
theorem sq_le {a B : Int} (hB : 0 ≤ B) (h : a * a ≤ 2 * (B * B)) : -(2 * B) ≤ a ∧ a ≤ 2 * B := by
  constructor
  · rcases Int.lt_or_le a (-(2 * B)) with h1 | h1
    · exfalso
      have h2 : 0 ≤ (-a - 2 * B) := by omega
      have h3 : 0 ≤ (-a - 2 * B) * (-a + 2 * B) := Int.mul_nonneg h2 (by omega)
      have h4 : 0 ≤ B * B := Int.mul_nonneg hB hB
      have e : (-a - 2 * B) * (-a + 2 * B) = a * a - 4 * (B * B) := by grind
      have h5 : 0 < -a - 2 * B := by omega
      have h6 : 0 < -a + 2 * B := by omega
      have h7 := Int.mul_pos h5 h6
      omega
    · exact h1
  · rcases Int.lt_or_le (2 * B) a with h1 | h1
    · exfalso
      have h5 : 0 < a - 2 * B := by omega
      have h6 : 0 < a + 2 * B := by omega
      have h7 := Int.mul_pos h5 h6
      have h4 : 0 ≤ B * B := Int.mul_nonneg hB hB
      have e : (a - 2 * B) * (a + 2 * B) = a * a - 4 * (B * B) := by grind
      omega
    · exact h1
theorem sq_nn0 (z : Int) : 0 ≤ z * z := by
  rcases Int.le_total 0 z with h | h
  · exact Int.mul_nonneg h h
  · exact Int.mul_nonneg_of_nonpos_of_nonpos h h
theorem lift_bd {x : V2} {l : List V2} {B : Int} (hB : 0 ≤ B) (hx : -B ≤ x.1 ∧ x.1 ≤ B ∧ -B ≤ x.2 ∧ x.2 ≤ B) (hs : smB x = true) (hl : ∀ n ∈ l, smB n = true) : -(3 * B) ≤ (liftR x l).1 ∧ (liftR x l).1 ≤ 3 * B ∧ -(3 * B) ≤ (liftR x l).2 ∧ (liftR x l).2 ≤ 3 * B := by
  by_cases ha : allowedR x l = true
  · rw [lift_same hs hl ha]; omega
  · rw [lift_pick hs hl ha]
    rcases pick_cases (best_least x l) with ⟨c, hc, hle, e, _⟩ | ⟨e, _⟩
    · rw [e]
      have h0 := hle (0, 0) (.inl rfl)
      have hk : kA x c ≤ kA x (0, 0) := by
        unfold leK at h0; omega
      unfold kA sqI at hk
      simp only at hk
      have m1 := mul_bd _ _ _ _ hx.1 hx.2.1 hx.1 hx.2.1
      have m2 := mul_bd _ _ _ _ hx.2.2.1 hx.2.2.2 hx.2.2.1 hx.2.2.2
      have e1 : (0 - x.1) * (0 - x.1) = x.1 * x.1 := by grind
      have e2 : (0 - x.2) * (0 - x.2) = x.2 * x.2 := by grind
      rw [e1, e2] at hk
      have n1 := sq_nn0 (c.1 - x.1)
      have n2 := sq_nn0 (c.2 - x.2)
      have q1 := sq_le (a := c.1 - x.1) hB (by omega)
      have q2 := sq_le (a := c.2 - x.2) hB (by omega)
      omega
    · rw [e]; simp only; omega
theorem turn_bd2 {v1 v2 n1 n2 : Int} (h : -65536 ≤ v1 ∧ v1 ≤ 65536 ∧ -65536 ≤ v2 ∧ v2 ≤ 65536) : -131072 ≤ (turnR v1 v2 n1 n2).1 ∧ (turnR v1 v2 n1 n2).1 ≤ 131072 ∧ -131072 ≤ (turnR v1 v2 n1 n2).2.1 ∧ (turnR v1 v2 n1 n2).2.1 ≤ 131072 := by
  unfold turnR
  split
  · have q1 := tdiv_bd (a := 255 * v1 + 32 * v2) (B := 131072) (by omega) (by omega)
    have q2 := tdiv_bd (a := 255 * v2 - 32 * v1) (B := 131072) (by omega) (by omega)
    exact ⟨q1.1, q1.2, q2.1, q2.2⟩
  · split
    · have q1 := tdiv_bd (a := 255 * v1 - 32 * v2) (B := 131072) (by omega) (by omega)
      have q2 := tdiv_bd (a := 32 * v1 + 255 * v2) (B := 131072) (by omega) (by omega)
      exact ⟨q1.1, q1.2, q2.1, q2.2⟩
    · simp
/-- A plan of one contact. -/
structure Stair (p1 p2 h1 h2 b1 b2 key : Int) (n : V2) (k : Nat) (S : Pl) : Prop where
  p : S.p1 = p1 ∧ S.p2 = p2
  f : S.f1 = h1 ∧ S.f2 = h2
  b : S.b1 = b1 ∧ S.b2 = b2
  l : S.ks = [key] ∧ S.ns = [n]
  hh : -4096 ≤ S.h1 ∧ S.h1 ≤ 4096 ∧ -4096 ≤ S.h2 ∧ S.h2 ≤ 4096
  v : (S.t = false → -65536 ≤ S.v1 ∧ S.v1 ≤ 65536 ∧ -65536 ≤ S.v2 ∧ S.v2 ≤ 65536) ∧ -131072 ≤ S.v1 ∧ S.v1 ≤ 131072 ∧ -131072 ≤ S.v2 ∧ S.v2 ≤ 131072
  t1 : k = 1 → S.t = false
  t2 : 2 ≤ k → S.d = true ∨ S.t = true
  t3 : 3 ≤ k → S.d = true
theorem Stair.fit {p1 p2 h1 h2 b1 b2 key : Int} {n : V2} {k : Nat} {S : Pl} (h : Stair p1 p2 h1 h2 b1 b2 key n k S) (hp : -1048576 ≤ p1 ∧ p1 ≤ 1048576 ∧ -1048576 ≤ p2 ∧ p2 ≤ 1048576) (hh : -1024 ≤ h1 ∧ h1 ≤ 1024 ∧ -1024 ≤ h2 ∧ h2 ≤ 1024) (hb : -16384 ≤ b1 ∧ b1 ≤ 16384 ∧ -16384 ≤ b2 ∧ b2 ≤ 16384) (hn : -1048576 ≤ n.1 ∧ n.1 ≤ 1048576 ∧ -1048576 ≤ n.2 ∧ n.2 ≤ 1048576) : fitB S = true := by
  obtain ⟨⟨a1, a2⟩, ⟨a3, a4⟩, ⟨a5, a6⟩, ⟨a7, a8⟩, a9, ⟨_, a10⟩, _, _, _⟩ := h
  unfold fitB validB
  simp only [Bool.and_eq_true]
  refine ⟨⟨⟨⟨⟨within_mk (by omega), within_mk (by omega)⟩, within_mk (by omega)⟩, within_mk (by omega)⟩, within_mk (by omega)⟩, ?_⟩
  rw [a8]
  simp only [List.all_cons, List.all_nil, Bool.and_true]
  exact within_mk (by omega)
theorem start_fit {p1 p2 v1 v2 h1 h2 : Int} (hp : -1048576 ≤ p1 ∧ p1 ≤ 1048576 ∧ -1048576 ≤ p2 ∧ p2 ≤ 1048576) (hh : -1024 ≤ h1 ∧ h1 ≤ 1024 ∧ -1024 ≤ h2 ∧ h2 ≤ 1024) (hb : -16384 ≤ v1 ∧ v1 ≤ 16384 ∧ -16384 ≤ v2 ∧ v2 ≤ 16384) : startR p1 p2 v1 v2 h1 h2 = startP p1 p2 v1 v2 h1 h2 ∧ fitB (startP p1 p2 v1 v2 h1 h2) = true := by
  have h : fitB (startP p1 p2 v1 v2 h1 h2) = true := by
    unfold fitB validB startP
    simp only [Bool.and_eq_true]
    exact ⟨⟨⟨⟨⟨within_mk (by omega), within_mk (by omega)⟩, within_mk (by omega)⟩, within_mk (by omega)⟩, within_mk (by omega)⟩, rfl⟩
  exact ⟨if_pos h, h⟩
theorem pay_cases (Q : Pl) : payR Q = Q ∨ payR Q = { Q with v1 := 0, v2 := 0, h1 := 0, h2 := 0, d := true } := by
  unfold payR; split
  · exact .inr rfl
  · exact .inl rfl
theorem press_first {p1 p2 v1 v2 h1 h2 key : Int} {n : V2} (hf : fitB (startP p1 p2 v1 v2 h1 h2) = true) (hn : nearB 2097152 n = true) : pressR (startP p1 p2 v1 v2 h1 h2) [key] [n] = payR (liftP (withR (startP p1 p2 v1 v2 h1 h2) ([key], [n]))) := by
  unfold pressR
  rw [if_pos ⟨hf, by simp [hn]⟩, if_neg (by simp [startP]), if_pos (by simp [startP, addR, addS])]
  simp [addR, addS, startP]
theorem stair_one {p1 p2 v1 v2 h1 h2 key : Int} {n : V2} (hp : -1048576 ≤ p1 ∧ p1 ≤ 1048576 ∧ -1048576 ≤ p2 ∧ p2 ≤ 1048576) (hh : -1024 ≤ h1 ∧ h1 ≤ 1024 ∧ -1024 ≤ h2 ∧ h2 ≤ 1024) (hb : -16384 ≤ v1 ∧ v1 ≤ 16384 ∧ -16384 ≤ v2 ∧ v2 ≤ 16384) (hn : -1048576 ≤ n.1 ∧ n.1 ≤ 1048576 ∧ -1048576 ≤ n.2 ∧ n.2 ≤ 1048576) : Stair p1 p2 h1 h2 v1 v2 key n 1 (pressR (startP p1 p2 v1 v2 h1 h2) [key] [n]) := by
  rw [press_first (start_fit hp hh hb).2 (within_mk (by omega))]
  have hl : ∀ x ∈ [n], smB x = true := fun x hx => by
    simp only [List.mem_cons, List.not_mem_nil, or_false] at hx
    rw [hx]; exact small_of (by omega)
  have q1 := lift_bd (x := (v1, v2)) (l := [n]) (B := 16384) (by decide) hb (small_of (show _ by simp only; omega)) hl
  have q2 := lift_bd (x := (h1, h2)) (l := [n]) (B := 1024) (by decide) hh (small_of (show _ by simp only; omega)) hl
  rcases pay_cases (liftP (withR (startP p1 p2 v1 v2 h1 h2) ([key], [n]))) with e | e
  · rw [e]
    simp only [liftP, withR, startP]
    exact ⟨⟨rfl, rfl⟩, ⟨rfl, rfl⟩, ⟨rfl, rfl⟩, ⟨rfl, rfl⟩, by simp only; omega, ⟨fun _ => by simp only; omega, by simp only; omega⟩, fun _ => rfl, fun h => by omega, fun h => by omega⟩
  · rw [e]
    simp only [liftP, withR, startP]
    exact ⟨⟨rfl, rfl⟩, ⟨rfl, rfl⟩, ⟨rfl, rfl⟩, ⟨rfl, rfl⟩, by simp only; omega, ⟨fun _ => by simp only; omega, by simp only; omega⟩, fun _ => rfl, fun h => by omega, fun h => by omega⟩
theorem stair_next {p1 p2 h1 h2 b1 b2 key : Int} {n : V2} {k : Nat} {S : Pl} (h : Stair p1 p2 h1 h2 b1 b2 key n k S) (hk : 1 ≤ k) (hf : fitB S = true) (hn : nearB 2097152 n = true) : Stair p1 p2 h1 h2 b1 b2 key n (k + 1) (pressR S [key] [n]) := by
  have hadd : addR S ([key].zip [n]) = (S.ks, S.ns) := by simp [addR, addS, h.l.1]
  have hw : withR S (S.ks, S.ns) = S := rfl
  unfold pressR
  rw [if_pos ⟨hf, by simp [hn]⟩, hadd, hw]
  cases hd : S.d
  · rw [if_neg (by simp), if_neg (by simp)]
    have hhold : Stair p1 p2 h1 h2 b1 b2 key n (k + 1) (holdR S) := by
      unfold holdR
      rw [if_pos hf]
      obtain ⟨a1, a2, a3, a4, a5, a6, a7, a8, a9⟩ := h
      exact ⟨a1, a2, a3, a4, by simp only; omega, ⟨fun _ => by simp only; omega, by simp only; omega⟩, fun h => by omega, fun _ => .inl rfl, fun _ => rfl⟩
    by_cases hc : [key].length = 1 ∧ S.t = false
    · rw [if_pos hc]
      simp only [List.headD_cons]
      by_cases hok : (turnR S.v1 S.v2 n.1 n.2).2.2 = true
      · simp only [hok, ↓reduceIte]
        have hk1 : k = 1 := by
          rcases Nat.lt_or_ge k 2 with h1 | h1
          · omega
          · rcases h.t2 h1 with h2 | h2
            · rw [hd] at h2; cases h2
            · rw [hc.2] at h2; cases h2
        subst hk1
        have hb := turn_bd2 (n1 := n.1) (n2 := n.2) (h.v.1 hc.2)
        obtain ⟨a1, a2, a3, a4, a5, a6, a7, a8, a9⟩ := h
        rcases pay_cases (turnP S n) with e | e
        · rw [e]
          simp only [turnP]
          exact ⟨a1, a2, a3, a4, a5, ⟨(fun h => by cases h), hb⟩, fun h => by omega, fun _ => .inr rfl, fun h => by omega⟩
        · rw [e]
          simp only [turnP]
          exact ⟨a1, a2, a3, a4, by simp only; omega, ⟨(fun h => by cases h), by simp only; omega⟩, fun h => by omega, fun _ => .inl rfl, fun h => by omega⟩
      · simp only [hok]; exact hhold
    · rw [if_neg hc]; exact hhold
  · rw [if_pos (.inl rfl)]
    obtain ⟨a1, a2, a3, a4, a5, a6, a7, a8, a9⟩ := h
    exact ⟨a1, a2, a3, a4, a5, a6, fun h => by omega, fun _ => .inl hd, fun _ => hd⟩
end Go.Proofs.Ytklkhnhieihfoaa
