/- SupportEnergy, plain: what acts keep, and the energy at the end. No program in sight. -/
import Derived.Test.YtklkhnhieihfoaaSupJ
import Derived.Test.YtklkhnhieihfoaaSupD
namespace Go.Proofs.Ytklkhnhieihfoaa
open Go Go.RowKit
set_option linter.unusedVariables false
theorem sq_z (z : Int) : 0 ≤ z * z := sq_nn0 z
structure Bds (p1 p2 h1 h2 : Int) : Prop where
  p : -1048576 ≤ p1 ∧ p1 ≤ 1048576 ∧ -1048576 ≤ p2 ∧ p2 ≤ 1048576
  h : -1024 ≤ h1 ∧ h1 ≤ 1024 ∧ -1024 ≤ h2 ∧ h2 ≤ 1024
structure EInv (p1 p2 h1 h2 b1 b2 : Int) (i : Nat) (S : Pl) : Prop where
  p : S.p1 = p1 ∧ S.p2 = p2
  f : S.f1 = h1 ∧ S.f2 = h2
  b : S.b1 = b1 ∧ S.b2 = b2
  bb : -16384 ≤ b1 ∧ b1 ≤ 16384 ∧ -16384 ≤ b2 ∧ b2 ≤ 16384
  hh : -4096 ≤ S.h1 ∧ S.h1 ≤ 4096 ∧ -4096 ≤ S.h2 ∧ S.h2 ≤ 4096
  v : (S.t = false → -65536 ≤ S.v1 ∧ S.v1 ≤ 65536 ∧ -65536 ≤ S.v2 ∧ S.v2 ≤ 65536) ∧ -131072 ≤ S.v1 ∧ S.v1 ≤ 131072 ∧ -131072 ≤ S.v2 ∧ S.v2 ≤ 131072
  l : S.ks.length ≤ 8 * i ∧ S.ns.length ≤ 8 * i
  n : S.ns.all (nearB 2097152) = true
  m : S.d = false → 0 ≤ budR S
theorem EInv.fit {p1 p2 h1 h2 b1 b2 : Int} {i : Nat} {S : Pl} (h : EInv p1 p2 h1 h2 b1 b2 i S) (B : Bds p1 p2 h1 h2) : fitB S = true := by
  obtain ⟨⟨a1, a2⟩, ⟨a3, a4⟩, ⟨a5, a6⟩, bb, a9, ⟨_, a10⟩, _, hn, _⟩ := h
  obtain ⟨hp, hh⟩ := B
  unfold fitB validB
  simp only [Bool.and_eq_true]
  exact ⟨⟨⟨⟨⟨within_mk (by omega), within_mk (by omega)⟩, within_mk (by omega)⟩, within_mk (by omega)⟩, within_mk (by omega)⟩, hn⟩
theorem EInv.up {p1 p2 h1 h2 b1 b2 : Int} {i : Nat} {S : Pl} (h : EInv p1 p2 h1 h2 b1 b2 i S) : EInv p1 p2 h1 h2 b1 b2 (i + 1) S :=
  { h with l := ⟨by have := h.l.1; omega, by have := h.l.2; omega⟩ }
theorem bud_val {P : Pl} (hv : -131072 ≤ P.v1 ∧ P.v1 ≤ 131072 ∧ -131072 ≤ P.v2 ∧ P.v2 ≤ 131072) (hh : -4096 ≤ P.h1 ∧ P.h1 ≤ 4096 ∧ -4096 ≤ P.h2 ∧ P.h2 ≤ 4096) :
    budR P = P.b1 * P.b1 + P.b2 * P.b2 + 4 * (P.f1 * (P.v1 + P.h1) + P.f2 * (P.v2 + P.h2)) := by
  have hs : smallB (P.v1 + P.h1) (P.v2 + P.h2) = true := small_of (by omega)
  unfold budR keptI
  rw [if_pos hs, if_pos hs]
theorem inv_start {p1 p2 h1 h2 v1 v2 : Int} (B : Bds p1 p2 h1 h2) (hv : -16384 ≤ v1 ∧ v1 ≤ 16384 ∧ -16384 ≤ v2 ∧ v2 ≤ 16384) (i : Nat) : EInv p1 p2 h1 h2 v1 v2 i (startR p1 p2 v1 v2 h1 h2) := by
  obtain ⟨hp, hh⟩ := B
  rw [(start_fit hp hh hv).1]
  refine ⟨⟨rfl, rfl⟩, ⟨rfl, rfl⟩, ⟨rfl, rfl⟩, hv, ?_, ⟨fun _ => ?_, ?_⟩, ⟨Nat.zero_le _, Nat.zero_le _⟩, rfl, fun _ => ?_⟩
  · simp only [startP]; omega
  · simp only [startP]; omega
  · simp only [startP]; omega
  · rw [bud_val (by simp only [startP]; omega) (by simp only [startP]; omega)]
    simp only [startP]
    have e : v1 * v1 + v2 * v2 + 4 * (h1 * (v1 + h1) + h2 * (v2 + h2)) = (v1 + 2 * h1) * (v1 + 2 * h1) + (v2 + 2 * h2) * (v2 + 2 * h2) := by grind
    rw [e]
    have := sq_z (v1 + 2 * h1)
    have := sq_z (v2 + 2 * h2)
    omega
theorem inv_imp {p1 p2 h1 h2 b1 b2 a b : Int} {i : Nat} {S : Pl} (h : EInv p1 p2 h1 h2 b1 b2 i S) (B : Bds p1 p2 h1 h2) (ha : -16384 ≤ a ∧ a ≤ 16384 ∧ -16384 ≤ b ∧ b ≤ 16384) :
    (S.d = true → EInv p1 p2 h1 h2 b1 b2 (i + 1) (impR S a b)) ∧ (S.d = false → EInv p1 p2 h1 h2 a b (i + 1) (impR S a b)) := by
  unfold impR
  rw [if_pos ⟨h.fit B, within_mk (by omega)⟩]
  refine ⟨fun hd => ?_, fun hd => ?_⟩
  · rw [if_pos hd]; exact h.up
  · rw [if_neg (by rw [hd]; decide), h.p.1, h.p.2, h.f.1, h.f.2]
    exact inv_start B ha _
theorem inv_held {p1 p2 h1 h2 b1 b2 : Int} {i : Nat} {S : Pl} (h : EInv p1 p2 h1 h2 b1 b2 i S) : EInv p1 p2 h1 h2 b1 b2 i { S with v1 := 0, v2 := 0, h1 := 0, h2 := 0, d := true } :=
  ⟨h.p, h.f, h.b, h.bb, by simp, ⟨fun _ => by simp, by simp⟩, h.l, h.n, fun hd => by cases hd⟩
theorem inv_hold {p1 p2 h1 h2 b1 b2 : Int} {i : Nat} {S : Pl} (h : EInv p1 p2 h1 h2 b1 b2 i S) (B : Bds p1 p2 h1 h2) : EInv p1 p2 h1 h2 b1 b2 i (holdR S) := by
  unfold holdR
  rw [if_pos (h.fit B)]
  exact inv_held h
/-- All but the budget. -/
structure EPre (p1 p2 h1 h2 b1 b2 : Int) (i : Nat) (S : Pl) : Prop where
  p : S.p1 = p1 ∧ S.p2 = p2
  f : S.f1 = h1 ∧ S.f2 = h2
  b : S.b1 = b1 ∧ S.b2 = b2
  bb : -16384 ≤ b1 ∧ b1 ≤ 16384 ∧ -16384 ≤ b2 ∧ b2 ≤ 16384
  hh : -4096 ≤ S.h1 ∧ S.h1 ≤ 4096 ∧ -4096 ≤ S.h2 ∧ S.h2 ≤ 4096
  v : (S.t = false → -65536 ≤ S.v1 ∧ S.v1 ≤ 65536 ∧ -65536 ≤ S.v2 ∧ S.v2 ≤ 65536) ∧ -131072 ≤ S.v1 ∧ S.v1 ≤ 131072 ∧ -131072 ≤ S.v2 ∧ S.v2 ≤ 131072
  l : S.ks.length ≤ 8 * i ∧ S.ns.length ≤ 8 * i
  n : S.ns.all (nearB 2097152) = true
theorem EPre.pay {p1 p2 h1 h2 b1 b2 : Int} {i : Nat} {S : Pl} (h : EPre p1 p2 h1 h2 b1 b2 i S) : EInv p1 p2 h1 h2 b1 b2 i (payR S) := by
  unfold payR
  split
  · exact ⟨h.p, h.f, h.b, h.bb, by simp, ⟨fun _ => by simp, by simp⟩, h.l, h.n, fun hd => by cases hd⟩
  · exact ⟨h.p, h.f, h.b, h.bb, h.hh, h.v, h.l, h.n, fun _ => by omega⟩
theorem inv_press {p1 p2 h1 h2 b1 b2 : Int} {i : Nat} {S : Pl} {keys : List Int} {norms : List V2} (h : EInv p1 p2 h1 h2 b1 b2 i S) (B : Bds p1 p2 h1 h2) (hk : keys.length ≤ 8) (hn : norms.length ≤ 8) (hna : norms.all (nearB 2097152) = true) :
    EInv p1 p2 h1 h2 b1 b2 (i + 1) (pressR S keys norms) := by
  have hf := h.fit B
  unfold pressR
  rw [if_pos ⟨hf, hna⟩]
  have hlen := addL_len (keys.zip norms) (S.ks, S.ns)
  simp only at hlen
  have hz : (keys.zip norms).length ≤ 8 := by rw [List.length_zip]; omega
  have hall := addR_all (P := S) (keys := keys) hf hna
  have hw : EInv p1 p2 h1 h2 b1 b2 (i + 1) (withR S (addR S (keys.zip norms))) :=
    ⟨h.p, h.f, h.b, h.bb, h.hh, h.v, ⟨by have := h.l.1; simp only [withR]; unfold addR; omega, by have := h.l.2; simp only [withR]; unfold addR; omega⟩, hall, h.m⟩
  obtain ⟨hb1, hb2⟩ := h.b
  obtain ⟨hf1, hf2⟩ := h.f
  have bb := h.bb
  have hB := B.h
  split
  · exact h.up
  · split
    · refine EPre.pay ⟨hw.p, hw.f, hw.b, hw.bb, ?_, ?_, hw.l, hw.n⟩
      · have hl : ∀ n ∈ (withR S (addR S (keys.zip norms))).ns, smB n = true := fun n hn => near_small (List.all_eq_true.1 hall n hn)
        have q := lift_bd (x := ((withR S (addR S (keys.zip norms))).f1, (withR S (addR S (keys.zip norms))).f2)) (l := (withR S (addR S (keys.zip norms))).ns) (B := 1024) (by omega) (by simp only [withR]; omega) (small_of (by simp only [withR]; omega)) hl
        simp only [liftP]
        omega
      · have hl : ∀ n ∈ (withR S (addR S (keys.zip norms))).ns, smB n = true := fun n hn => near_small (List.all_eq_true.1 hall n hn)
        have q := lift_bd (x := ((withR S (addR S (keys.zip norms))).b1, (withR S (addR S (keys.zip norms))).b2)) (l := (withR S (addR S (keys.zip norms))).ns) (B := 16384) (by omega) (by simp only [withR]; omega) (small_of (by simp only [withR]; omega)) hl
        simp only [liftP]
        exact ⟨fun _ => by omega, by omega⟩
    · split
      · rename_i ht
        split
        · have q := turn_bd2 (n1 := (norms.headD (0, 0)).1) (n2 := (norms.headD (0, 0)).2) (h.v.1 ht.2)
          exact EPre.pay ⟨hw.p, hw.f, hw.b, hw.bb, hw.hh, ⟨fun c => by simp [turnP] at c, q⟩, hw.l, hw.n⟩
        · exact inv_hold hw B
      · exact inv_hold hw B
theorem finA_le (e1 e2 M : Int) (hM : 0 ≤ M) : ∀ s, (finA e1 e2 M s).1 * (finA e1 e2 M s).1 + (finA e1 e2 M s).2 * (finA e1 e2 M s).2 ≤ M
  | 0 => by simpa [finA] using hM
  | s + 1 => by
    rw [finA_succ]
    split
    · assumption
    · exact finA_le e1 e2 M hM s
theorem sq_small {a M : Int} (h : a * a ≤ M) (hM : M ≤ 68719476736) : -262144 ≤ a ∧ a ≤ 262144 := by
  constructor
  · rcases Int.lt_or_le a (-262144) with g | g
    · exfalso
      have := Int.mul_le_mul (show (262145 : Int) ≤ -a by omega) (show (262145 : Int) ≤ -a by omega) (by omega) (by omega)
      rw [Int.neg_mul_neg] at this
      omega
    · exact g
  · rcases Int.lt_or_le 262144 a with g | g
    · exfalso
      have := Int.mul_le_mul (show (262145 : Int) ≤ a by omega) (show (262145 : Int) ≤ a by omega) (by omega) (by omega)
      omega
    · exact g
/-- How a plan ends. -/
theorem inv_fin {p1 p2 h1 h2 b1 b2 : Int} {i : Nat} {S : Pl} (h : EInv p1 p2 h1 h2 b1 b2 i S) (B : Bds p1 p2 h1 h2) :
    (S.d = true ∧ finR S = ((p1, p2), (0, 0))) ∨ (S.d = false ∧ ∃ d1 d2 q1 q2 : Int, finR S = ((p1 + d1, p2 + d2), (q1, q2)) ∧ (-262144 ≤ d1 ∧ d1 ≤ 262144 ∧ -262144 ≤ d2 ∧ d2 ≤ 262144) ∧ (-262144 ≤ q1 ∧ q1 ≤ 262144 ∧ -262144 ≤ q2 ∧ q2 ≤ 262144) ∧ q1 * q1 + q2 * q2 ≤ b1 * b1 + b2 * b2 + 4 * (h1 * d1 + h2 * d2)) := by
  have hf := h.fit B
  cases hd : S.d
  · refine .inr ⟨rfl, S.v1 + S.h1, S.v2 + S.h2, (finA (S.v1 + S.h1 * 2) (S.v2 + S.h2 * 2) (budR S) 65).1, (finA (S.v1 + S.h1 * 2) (S.v2 + S.h2 * 2) (budR S) 65).2, ?_, ?_, ?_⟩
    · unfold finR
      rw [if_pos hf, if_neg (by rw [hd]; decide), h.p.1, h.p.2, Int.add_assoc, Int.add_assoc]
    · have := h.v.2; have := h.hh; omega
    · have hM := h.m hd
      have hle := finA_le (S.v1 + S.h1 * 2) (S.v2 + S.h2 * 2) (budR S) hM 65
      have hval := bud_val (P := S) h.v.2 h.hh
      rw [h.f.1, h.f.2, h.b.1, h.b.2] at hval
      have v := h.v.2
      have hh := h.hh
      have bb := h.bb
      have hB := B.h
      have m1 := mul_bd b1 b1 16384 16384 (by omega) (by omega) (by omega) (by omega)
      have m2 := mul_bd b2 b2 16384 16384 (by omega) (by omega) (by omega) (by omega)
      have m3 := mul_bd h1 (S.v1 + S.h1) 1024 262144 (by omega) (by omega) (by omega) (by omega)
      have m4 := mul_bd h2 (S.v2 + S.h2) 1024 262144 (by omega) (by omega) (by omega) (by omega)
      have s1 := sq_z (finA (S.v1 + S.h1 * 2) (S.v2 + S.h2 * 2) (budR S) 65).1
      have s2 := sq_z (finA (S.v1 + S.h1 * 2) (S.v2 + S.h2 * 2) (budR S) 65).2
      have q1 := sq_small (a := (finA (S.v1 + S.h1 * 2) (S.v2 + S.h2 * 2) (budR S) 65).1) (M := budR S) (by omega) (by omega)
      have q2 := sq_small (a := (finA (S.v1 + S.h1 * 2) (S.v2 + S.h2 * 2) (budR S) 65).2) (M := budR S) (by omega) (by omega)
      exact ⟨⟨q1.1, q1.2, q2.1, q2.2⟩, by omega⟩
  · refine .inl ⟨rfl, ?_⟩
    unfold finR
    rw [if_pos hf, if_pos hd, h.p.1, h.p.2]
/-- A free flight. -/
theorem free_fin {p1 p2 h1 h2 v1 v2 : Int} (B : Bds p1 p2 h1 h2) (hv : -16384 ≤ v1 ∧ v1 ≤ 16384 ∧ -16384 ≤ v2 ∧ v2 ≤ 16384) :
    finR (startR p1 p2 v1 v2 h1 h2) = ((p1 + (v1 + h1), p2 + (v2 + h2)), (v1 + h1 * 2, v2 + h2 * 2)) ∧ (v1 + h1 * 2) * (v1 + h1 * 2) + (v2 + h2 * 2) * (v2 + h2 * 2) = v1 * v1 + v2 * v2 + 4 * (h1 * (v1 + h1) + h2 * (v2 + h2)) := by
  have e : (v1 + h1 * 2) * (v1 + h1 * 2) + (v2 + h2 * 2) * (v2 + h2 * 2) = v1 * v1 + v2 * v2 + 4 * (h1 * (v1 + h1) + h2 * (v2 + h2)) := by grind
  refine ⟨?_, e⟩
  obtain ⟨hp, hh⟩ := B
  obtain ⟨e1, e2⟩ := start_fit hp hh hv
  rw [e1]
  unfold finR
  rw [if_pos e2, if_neg (by simp [startP])]
  have hb := bud_val (P := startP p1 p2 v1 v2 h1 h2) (by simp only [startP]; omega) (by simp only [startP]; omega)
  simp only [startP] at hb ⊢
  rw [hb, finA_succ]
  have t1 : ∀ z : Int, (z * ((64 : Nat) : Int)).tdiv 64 = z := fun z => Int.mul_tdiv_cancel z (by decide)
  rw [t1, t1, if_pos (by rw [e]; exact Int.le_refl _), Int.add_assoc, Int.add_assoc]
def actR (P : Pl) (kd a b : Int) (ks : List Int) (ns : List V2) : Pl := if kd = 0 then impR P a b else if kd = 4 then holdR P else pressR P ks ns
theorem inv_act {p1 p2 h1 h2 b1 b2 kd a b : Int} {i : Nat} {S : Pl} {ks : List Int} {ns : List V2} (h : EInv p1 p2 h1 h2 b1 b2 i S) (B : Bds p1 p2 h1 h2) (ha : -16384 ≤ a ∧ a ≤ 16384 ∧ -16384 ≤ b ∧ b ≤ 16384) (hk : ks.length ≤ 8) (hn : ns.length ≤ 8) (hna : ns.all (nearB 2097152) = true) :
    (kd = 0 ∧ S.d = false → EInv p1 p2 h1 h2 a b (i + 1) (actR S kd a b ks ns)) ∧ (¬ (kd = 0 ∧ S.d = false) → EInv p1 p2 h1 h2 b1 b2 (i + 1) (actR S kd a b ks ns)) := by
  unfold actR
  refine ⟨fun hc => ?_, fun hc => ?_⟩
  · rw [if_pos hc.1]
    exact (inv_imp h B ha).2 hc.2
  · split
    · rename_i h0
      refine (inv_imp h B ha).1 ?_
      cases hd : S.d
      · exact absurd ⟨h0, hd⟩ hc
      · rfl
    · split
      · exact (inv_hold h B).up
      · exact inv_press h B hk hn hna
end Go.Proofs.Ytklkhnhieihfoaa
