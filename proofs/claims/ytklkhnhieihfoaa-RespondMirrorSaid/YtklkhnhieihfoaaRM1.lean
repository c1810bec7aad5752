/- Law RespondMirror returns true for every Meet and any two integers; each argument reads afterwards as it read before. No conditions. Merged texts: Vec LiftP VecE RsA DrawR RsJ RsP RsU RsX Open LawRM (what no proof of the claim needs is left out). -/
import Derived.Test.YtklkhnhieihfoaaRb7
import Derived.Test.YtklkhnhieihfoaaProg
import Derived.WalkKit
import Derived.WalkSpells
import Derived.WalkLawsBesides
import Derived.Outline
import Derived.Lib.Hide
import Derived.BigCall
import Derived.ProofKit
import Derived.OpenShut
import Derived.ChangeOld
import Derived.Below
import Derived.Carry
import Derived.Test.YtklkhnhieihfoaaRows
namespace Go.Proofs.Ytklkhnhieihfoaa
open Go.RowKit
theorem ret_vec {a b c d : Int} (h : a = c) (h' : b = d) : Ending.returned (.agg #[.int .i64 a, .int .i64 b]) = .returned (.agg #[.int .i64 c, .int .i64 d]) := by rw [h, h']
def keptI (x y z : Int) : Int := if smallB x y = true then z else 0
set_option maxHeartbeats 400000 in
theorem kept_any (x y : Int) (w : World) :
    Calls Try.prog 68 #[.agg #[.int .i64 x, .int .i64 y]] w fun e w' => e = .returned (.agg #[.int .i64 (keptI x y x), .int .i64 (keptI x y y)]) ∧ Below w.heap.size w w' := by
  go_enter Try.func68, Try.ntmps68
  go_wp2_with (first | (go_at_call 67; refine (small_any _ _ _).mono ?_; rintro e w1 ⟨rfl, hb1⟩; have hz1 : w.heap.size + 2 ≤ w1.heap.size := (by have h := hb1.size; (try simp at h); omega); have hbb := Below.mono hb1 (B' := w.heap.size + 2) (by (try simp) <;> omega); clear hb1; (with_reducible apply cel2 (b := w.heap.size) hbb); (focus ((try simp) <;> omega)); (focus omega); (focus (go_simp; try exact rfl)); (focus (go_simp; try exact rfl)); (focus (intro o; go_simp)); intro cc cc fz hl; (with_reducible apply cel2 (b := w.heap.size + 1) hbb); (focus ((try simp) <;> omega)); (focus omega); (focus (go_simp; try exact rfl)); (focus (go_simp; try exact rfl)); (focus (intro o; go_simp)); intro cc cc fz hl))
  · rename_i hs
    refine bodyPost_ret (v := .agg #[.int .i64 0, .int .i64 0]) (by simp only [results, Try.results68]; go_simp) rfl ⟨?_, ?_⟩
    refine ret_vec ?_ ?_
    · simp [keptI] at hs ⊢; simp [hs]
    · simp [keptI] at hs ⊢; simp [hs]
    · ((with_reducible (repeat (first | exact bR _ _ | refine bS ?_ ?_ _ | refine bA ?_ ?_ _ | refine bD ?_ | refine bT ?_ (by assumption) ?_ | refine bO (by assumption) ?_ ?_))) <;> (first | omega | (simp; done) | (simp <;> omega)))
  · rename_i hs
    refine bodyPost_ret (v := .agg #[.int .i64 x, .int .i64 y]) (by simp only [results, Try.results68]; go_simp) rfl ⟨?_, ?_⟩
    refine ret_vec ?_ ?_
    · simp [keptI] at hs ⊢; simp [hs]
    · simp [keptI] at hs ⊢; simp [hs]
    · ((with_reducible (repeat (first | exact bR _ _ | refine bS ?_ ?_ _ | refine bA ?_ ?_ _ | refine bD ?_ | refine bT ?_ (by assumption) ?_ | refine bO (by assumption) ?_ ?_))) <;> (first | omega | (simp; done) | (simp <;> omega)))
set_option maxHeartbeats 400000 in
theorem scale_in (a b n : Int) (w : World) (h1 : smallB a b = true) (h2 : -1073741824 ≤ n) (h3 : n ≤ 1073741824) :
    Calls Try.prog 52 #[.agg #[.int .i64 a, .int .i64 b], .int .i64 n] w fun e w' => e = .returned (.agg #[.int .i64 (keptI (a * n) (b * n) (a * n)), .int .i64 (keptI (a * n) (b * n) (b * n))]) ∧ Below w.heap.size w w' := by
  have hr1 : -1073741824 ≤ a ∧ a ≤ 1073741824 ∧ -1073741824 ≤ b ∧ b ≤ 1073741824 := by simpa [smallB] using h1
  obtain ⟨q1, q2, q3, q4⟩ := hr1
  have m1 := mul_bd a n 1073741824 1073741824 q1 q2 h2 h3
  have m2 := mul_bd b n 1073741824 1073741824 q3 q4 h2 h3
  obtain ⟨m1a, m1b⟩ := m1
  obtain ⟨m2a, m2b⟩ := m2
  by_cases hab : a = 0 ∧ b = 0
  · obtain ⟨rfl, rfl⟩ := hab
    go_enter Try.func52, Try.ntmps52; (try simp only [List.append_eq, List.cons_append, List.nil_append])
    go_wp2_with (first | (go_at_call 67; refine (small_any _ _ _).mono ?_; rintro e w1 ⟨rfl, hb1⟩; have hz1 : w.heap.size + 2 ≤ w1.heap.size := (by have h := hb1.size; (try simp at h); omega); have hbb := Below.mono hb1 (B' := w.heap.size + 2) (by (try simp) <;> omega); clear hb1; (with_reducible apply cel2 (b := w.heap.size) hbb); (focus ((try simp) <;> omega)); (focus omega); (focus (go_simp; try exact rfl)); (focus (go_simp; try exact rfl)); (focus (intro o; go_simp)); intro cc cc fz hl; (with_reducible apply cel2 (b := w.heap.size + 1) hbb); (focus ((try simp) <;> omega)); (focus omega); (focus (go_simp; try exact rfl)); (focus (go_simp; try exact rfl)); (focus (intro o; go_simp)); intro cc cc fz hl) | (go_at_call 68; refine (kept_any _ _ _).mono ?_; rintro e w1 ⟨rfl, hb1⟩; have hz1 : w.heap.size + 2 ≤ w1.heap.size := (by have h := hb1.size; (try simp at h); omega); have hbb := Below.mono hb1 (B' := w.heap.size + 2) (by (try simp) <;> omega); clear hb1; (with_reducible apply cel2 (b := w.heap.size) hbb); (focus ((try simp) <;> omega)); (focus omega); (focus (go_simp; try exact rfl)); (focus (go_simp; try exact rfl)); (focus (intro o; go_simp)); intro cc cc fz hl; (with_reducible apply cel2 (b := w.heap.size + 1) hbb); (focus ((try simp) <;> omega)); (focus omega); (focus (go_simp; try exact rfl)); (focus (go_simp; try exact rfl)); (focus (intro o; go_simp)); intro cc cc fz hl))
    refine bodyPost_ret (v := .agg #[.int .i64 0, .int .i64 0]) (by simp only [results, Try.results52]; go_simp) rfl ⟨?_, ?_⟩
    · simp [keptI]
    · ((with_reducible (repeat (first | exact bR _ _ | refine bS ?_ ?_ _ | refine bA ?_ ?_ _ | refine bD ?_ | refine bT ?_ (by assumption) ?_ | refine bO (by assumption) ?_ ?_))) <;> (first | omega | (simp; done) | (simp <;> omega)))
  · have hne : (decide (a = 0) && decide (b = 0)) = false := by simpa using hab
    go_enter Try.func52, Try.ntmps52; (try simp only [List.append_eq, List.cons_append, List.nil_append])
    go_wp2_with (first | (go_at_call 67; refine (small_any _ _ _).mono ?_; rintro e w1 ⟨rfl, hb1⟩; have hz1 : w.heap.size + 2 ≤ w1.heap.size := (by have h := hb1.size; (try simp at h); omega); have hbb := Below.mono hb1 (B' := w.heap.size + 2) (by (try simp) <;> omega); clear hb1; (with_reducible apply cel2 (b := w.heap.size) hbb); (focus ((try simp) <;> omega)); (focus omega); (focus (go_simp; try exact rfl)); (focus (go_simp; try exact rfl)); (focus (intro o; go_simp)); intro cc cc fz hl; (with_reducible apply cel2 (b := w.heap.size + 1) hbb); (focus ((try simp) <;> omega)); (focus omega); (focus (go_simp; try exact rfl)); (focus (go_simp; try exact rfl)); (focus (intro o; go_simp)); intro cc cc fz hl) | (go_at_call 68; refine (kept_any _ _ _).mono ?_; rintro e w1 ⟨rfl, hb1⟩; have hz1 : w.heap.size + 2 ≤ w1.heap.size := (by have h := hb1.size; (try simp at h); omega); have hbb := Below.mono hb1 (B' := w.heap.size + 2) (by (try simp) <;> omega); clear hb1; (with_reducible apply cel2 (b := w.heap.size) hbb); (focus ((try simp) <;> omega)); (focus omega); (focus (go_simp; try exact rfl)); (focus (go_simp; try exact rfl)); (focus (intro o; go_simp)); intro cc cc fz hl; (with_reducible apply cel2 (b := w.heap.size + 1) hbb); (focus ((try simp) <;> omega)); (focus omega); (focus (go_simp; try exact rfl)); (focus (go_simp; try exact rfl)); (focus (intro o; go_simp)); intro cc cc fz hl))
    all_goals
      refine bodyPost_ret (v := .agg #[.int .i64 (keptI (a * n) (b * n) (a * n)), .int .i64 (keptI (a * n) (b * n) (b * n))]) (by simp only [results, Try.results52]; go_simp) rfl ⟨?_, ?_⟩
      · rfl
      · ((with_reducible (repeat (first | exact bR _ _ | refine bS ?_ ?_ _ | refine bA ?_ ?_ _ | refine bD ?_ | refine bT ?_ (by assumption) ?_ | refine bO (by assumption) ?_ ?_))) <;> (first | omega | (simp; done) | (simp <;> omega)))
end Go.Proofs.Ytklkhnhieihfoaa
namespace Go.Proofs.Ytklkhnhieihfoaa
open Go.RowKit
set_option linter.unusedVariables false
def flipV (a : V2) : V2 := (-a.1, a.2)
theorem sm_flip (a : V2) : smB (flipV a) = smB a := bool_iff (by
  unfold flipV smB smallB
  simp only [decide_eq_true_eq]
  omega)
end Go.Proofs.Ytklkhnhieihfoaa
namespace Go.Proofs.Ytklkhnhieihfoaa
open Go.RowKit
set_option linter.unusedVariables false
def scaleR (a b n : Int) : V2 := if smallB a b = true ∧ (-1073741824 ≤ n ∧ n ≤ 1073741824) then keptR (a * n) (b * n) else (0, 0)
set_option maxHeartbeats 1000000 in
theorem vscale_any (a b n : Int) (w : World) :
    Calls Try.prog 52 #[.agg #[.int .i64 a, .int .i64 b], .int .i64 n] w fun e w' => e = .returned (.agg #[.int .i64 (scaleR a b n).1, .int .i64 (scaleR a b n).2]) ∧ Below w.heap.size w w' := by
  unfold scaleR
  by_cases h : smallB a b = true ∧ (-1073741824 ≤ n ∧ n ≤ 1073741824)
  · rw [if_pos h]
    obtain ⟨h1, h2, h3⟩ := h
    have hh := scale_in a b n w h1 h2 h3
    have e1 : keptI (a * n) (b * n) (a * n) = (keptR (a * n) (b * n)).1 := by unfold keptI keptR; split <;> rfl
    have e2 : keptI (a * n) (b * n) (b * n) = (keptR (a * n) (b * n)).2 := by unfold keptI keptR; split <;> rfl
    rw [e1, e2] at hh
    exact hh
  · rw [if_neg h]
    cases h1 : smallB a b
    · clear h
      go_enter Try.func52, Try.ntmps52; (try simp only [List.append_eq, List.cons_append, List.nil_append])
      go_wp2_with (first | (go_at_call 67; refine (vsmall_any _ _ _).mono ?_; rintro e w1 ⟨rfl, hb1⟩; have hz1 : w.heap.size + 2 ≤ w1.heap.size := (by have h := hb1.size; (try simp at h); omega); have hbb := Below.mono hb1 (B' := w.heap.size + 2) (by (try simp) <;> omega); clear hb1; (with_reducible apply cel2 (b := w.heap.size) hbb); (focus ((try simp) <;> omega)); (focus omega); (focus (go_simp; try exact rfl)); (focus (go_simp; try exact rfl)); (focus (intro o; go_simp)); intro cc cc fz hl; (with_reducible apply cel2 (b := w.heap.size + 1) hbb); (focus ((try simp) <;> omega)); (focus omega); (focus (go_simp; try exact rfl)); (focus (go_simp; try exact rfl)); (focus (intro o; go_simp)); intro cc cc fz hl))
      refine bodyPost_ret (v := .agg #[.int .i64 0, .int .i64 0]) (by simp only [results, Try.results52]; go_simp) rfl ⟨?_, ?_⟩
      · rfl
      · ((with_reducible (repeat (first | exact bR _ _ | refine bS ?_ ?_ _ | refine bA ?_ ?_ _ | refine bD ?_ | refine bT ?_ (by assumption) ?_ | refine bO (by assumption) ?_ ?_))) <;> (first | omega | (simp; done) | (simp <;> omega)))
    · by_cases hz : a = 0 ∧ b = 0
      · obtain ⟨rfl, rfl⟩ := hz
        clear h
        go_enter Try.func52, Try.ntmps52; (try simp only [List.append_eq, List.cons_append, List.nil_append])
        go_wp2_with (first | (go_at_call 67; refine (vsmall_any _ _ _).mono ?_; rintro e w1 ⟨rfl, hb1⟩; have hz1 : w.heap.size + 2 ≤ w1.heap.size := (by have h := hb1.size; (try simp at h); omega); have hbb := Below.mono hb1 (B' := w.heap.size + 2) (by (try simp) <;> omega); clear hb1; (with_reducible apply cel2 (b := w.heap.size) hbb); (focus ((try simp) <;> omega)); (focus omega); (focus (go_simp; try exact rfl)); (focus (go_simp; try exact rfl)); (focus (intro o; go_simp)); intro cc cc fz hl; (with_reducible apply cel2 (b := w.heap.size + 1) hbb); (focus ((try simp) <;> omega)); (focus omega); (focus (go_simp; try exact rfl)); (focus (go_simp; try exact rfl)); (focus (intro o; go_simp)); intro cc cc fz hl))
        refine bodyPost_ret (v := .agg #[.int .i64 0, .int .i64 0]) (by simp only [results, Try.results52]; go_simp) rfl ⟨?_, ?_⟩
        · rfl
        · ((with_reducible (repeat (first | exact bR _ _ | refine bS ?_ ?_ _ | refine bA ?_ ?_ _ | refine bD ?_ | refine bT ?_ (by assumption) ?_ | refine bO (by assumption) ?_ ?_))) <;> (first | omega | (simp; done) | (simp <;> omega)))
      · have hz' : ¬ a = 0 ∨ (a = 0 ∧ ¬ b = 0) := by omega
        rcases Int.lt_or_le n (-1073741824) with hn | hn
        · clear h hz
          rcases hz' with g | ⟨rfl, g⟩
          all_goals
            go_enter Try.func52, Try.ntmps52; (try simp only [List.append_eq, List.cons_append, List.nil_append])
            go_wp2_with (first | (go_at_call 67; refine (vsmall_any _ _ _).mono ?_; rintro e w1 ⟨rfl, hb1⟩; have hz1 : w.heap.size + 2 ≤ w1.heap.size := (by have h := hb1.size; (try simp at h); omega); have hbb := Below.mono hb1 (B' := w.heap.size + 2) (by (try simp) <;> omega); clear hb1; (with_reducible apply cel2 (b := w.heap.size) hbb); (focus ((try simp) <;> omega)); (focus omega); (focus (go_simp; try exact rfl)); (focus (go_simp; try exact rfl)); (focus (intro o; go_simp)); intro cc cc fz hl; (with_reducible apply cel2 (b := w.heap.size + 1) hbb); (focus ((try simp) <;> omega)); (focus omega); (focus (go_simp; try exact rfl)); (focus (go_simp; try exact rfl)); (focus (intro o; go_simp)); intro cc cc fz hl))
            refine bodyPost_ret (v := .agg #[.int .i64 0, .int .i64 0]) (by simp only [results, Try.results52]; go_simp) rfl ⟨?_, ?_⟩
            · rfl
            · ((with_reducible (repeat (first | exact bR _ _ | refine bS ?_ ?_ _ | refine bA ?_ ?_ _ | refine bD ?_ | refine bT ?_ (by assumption) ?_ | refine bO (by assumption) ?_ ?_))) <;> (first | omega | (simp; done) | (simp <;> omega)))
        · have hn' : ¬ n < -1073741824 := by omega
          have hn2 : 1073741824 < n := by
            rcases Int.lt_or_le 1073741824 n with g | g
            · exact g
            · exact absurd ⟨h1, hn, g⟩ h
          clear h hz hn
          rcases hz' with g | ⟨rfl, g⟩
          all_goals
            go_enter Try.func52, Try.ntmps52; (try simp only [List.append_eq, List.cons_append, List.nil_append])
            go_wp2_with (first | (go_at_call 67; refine (vsmall_any _ _ _).mono ?_; rintro e w1 ⟨rfl, hb1⟩; have hz1 : w.heap.size + 2 ≤ w1.heap.size := (by have h := hb1.size; (try simp at h); omega); have hbb := Below.mono hb1 (B' := w.heap.size + 2) (by (try simp) <;> omega); clear hb1; (with_reducible apply cel2 (b := w.heap.size) hbb); (focus ((try simp) <;> omega)); (focus omega); (focus (go_simp; try exact rfl)); (focus (go_simp; try exact rfl)); (focus (intro o; go_simp)); intro cc cc fz hl; (with_reducible apply cel2 (b := w.heap.size + 1) hbb); (focus ((try simp) <;> omega)); (focus omega); (focus (go_simp; try exact rfl)); (focus (go_simp; try exact rfl)); (focus (intro o; go_simp)); intro cc cc fz hl))
            refine bodyPost_ret (v := .agg #[.int .i64 0, .int .i64 0]) (by simp only [results, Try.results52]; go_simp) rfl ⟨?_, ?_⟩
            · rfl
            · ((with_reducible (repeat (first | exact bR _ _ | refine bS ?_ ?_ _ | refine bA ?_ ?_ _ | refine bD ?_ | refine bT ?_ (by assumption) ?_ | refine bO (by assumption) ?_ ?_))) <;> (first | omega | (simp; done) | (simp <;> omega)))
end Go.Proofs.Ytklkhnhieihfoaa
namespace Go.Proofs.Ytklkhnhieihfoaa
open Go Go.RowKit
set_option linter.unusedVariables false
theorem rspeed_any (x y : Int) (w : World) :
    Calls Try.prog 34 #[.agg #[.int .i64 x, .int .i64 y]] w fun e w' => e = .returned (.bool (withinB x y 1048576)) ∧ Below w.heap.size w w' := by
  go_enter Try.func34, Try.ntmps34; (try simp only [List.append_eq, List.cons_append, List.nil_append])
  go_wp2_with fail
  -- own blocks: w.heap.size:2
  (go_at_call 86; refine (rnear_any _ _ _ _ (by omega) (by omega)).mono ?_; rintro e w1 ⟨rfl, hb_w1⟩; have hz_w1 := hb_w1.size; (try simp at hz_w1); (with_reducible apply cel2 (b := w.heap.size) hb_w1); (focus ((try simp) <;> omega)); (focus omega); (focus (go_simp; try exact rfl)); (focus (go_simp; try exact rfl)); (focus (intro o; go_simp)); intro cc cc fz hl)
  go_wp2_with fail
  go_ret
  exact ⟨rfl, by ((with_reducible (repeat (first | exact bR _ _ | refine bS ?_ ?_ _ | refine bA ?_ ?_ _ | refine bD ?_ | refine bT ?_ (by assumption) ?_ | refine bO (by assumption) ?_ ?_))) <;> (first | omega | (simp; done) | (simp <;> omega)))⟩
end Go.Proofs.Ytklkhnhieihfoaa
namespace Go.Proofs.Ytklkhnhieihfoaa
open Go Go.RowKit
set_option linter.unusedVariables false
section
variable {P : Program} {ops : Array Oper} {md : Region.Mode} {N : Nat} {W0 : World}
theorem wpQ_wild {i f : Nat} {n : List Nat} {o : Oper} {L : GK} {listed : Array Bool} {F : World → Prop} {G : List (Nat × Obj)} {a : Act} (hi : ops[i]? = some o) (hB : decide (Region.ready md ops listed = [i]) = true) (hg : (o.guard.isNone && !isFresh o) = true)
    (h : ∀ W, F W → SG N W0 G W → givesW P N W0 (fun v F' G' => ∀ K : Act → Prop, (∀ a, wpQ P md ops N W0 n L f (listed.setIfInBounds i true) F' G' a → K a) → K (a.put o.dst v)) ((execOp a.eval o).run P W)) : wpQ P md ops N W0 n L (f + 1) listed F G a := by
  rw [decide_eq_true_eq] at hB
  rw [Bool.and_eq_true, Bool.not_eq_true'] at hg
  refine fun _ => ⟨fun h0 => (by rw [h0] at hB; cases hB), fun j hj => ?_⟩
  rw [hB] at hj
  obtain rfl : j = i := by simpa using hj
  unfold wfQ
  simp only [hi]
  rw [if_neg (by rw [hg.2]; exact Bool.false_ne_true)]
  exact .inr (.inl ⟨by have := hg.1; simp [Region.wanted, Option.isNone_iff_eq_none.1 this], fun W hF hS => givesW_mono (fun v F' G' hk => hk _ fun _ h => h) _ (h W hF hS)⟩)
end
end Go.Proofs.Ytklkhnhieihfoaa
namespace Go.Proofs.Ytklkhnhieihfoaa
open Go Go.RowKit
set_option linter.unusedVariables false
set_option maxRecDepth 100000 in
set_option maxHeartbeats 20000000 in
theorem flip15_any (x y : Int) (w : World) (hx : -4611686018427387904 ≤ x ∧ x ≤ 4611686018427387904) :
    Calls Try.prog 51 #[.agg #[.int .i64 x, .int .i64 y]] w fun e w' => e = .returned (.agg #[.int .i64 (-x), .int .i64 y]) ∧ Below w.heap.size w w' := by
  go_enter Try.func51, Try.ntmps51; (try simp only [List.append_eq, List.cons_append, List.nil_append])
  go_wp2_with fail
  refine bodyPost_ret (v := .agg #[.int .i64 (-x), .int .i64 y]) (by simp only [results, Try.results51]; go_simp) rfl ⟨?_, ?_⟩
  · rfl
  · ((with_reducible (repeat (first | exact bR _ _ | refine bS ?_ ?_ _ | refine bA ?_ ?_ _ | refine bD ?_ | refine bT ?_ (by assumption) ?_ | refine bO (by assumption) ?_ ?_))) <;> (first | omega | (simp; done) | (simp <;> omega)))
set_option maxRecDepth 100000 in
set_option maxHeartbeats 20000000 in
theorem flipped15_any (x y d : Int) (v : Value) (w : World) (hu : RAt w v x y d) (lx : (canN x.natAbs).length ≤ 1000) :
    Calls Try.prog 53 #[v] w (ROut (-x) y d w) := by
  have h0 := hu
  obtain ⟨spx, Apx, npx, cpx, spy, Apy, npy, cpy, spd, Apd, npd, cpd, rfl⟩ := hu.val
  have k1 := fun v w h => neg_any 1000 v x w h (by omega)
  generalize -x = X at *
  have K1 := Lib.hid k1
  have H0 := Lib.hid h0
  have LX := Lib.hid lx
  clear k1 h0 hu lx
  -- names on
  go_enter Try.func53, Try.ntmps53; (try simp only [List.append_eq, List.cons_append, List.nil_append])
  go_wp2_with fail
  -- own blocks: w.heap.size:6, w.heap.size + 1:6
  (refine pin_wp (N := _) (Nat.le_refl _) (fun w4 hb_w4 hz_w4 => ?_); (try simp at hz_w4); (with_reducible apply cel6 (b := w.heap.size) hb_w4); (focus ((try simp) <;> omega)); (focus omega); (focus (go_simp; try exact rfl)); (focus (go_simp; try exact rfl)); (focus (go_simp; try exact rfl)); (focus (go_simp; try exact rfl)); (focus (go_simp; try exact rfl)); (focus (go_simp; try exact rfl)); (focus (intro o; go_simp)); intro c_w4_0_0 c_w4_0_1 c_w4_0_2 c_w4_0_3 c_w4_0_4 c_w4_0_5 fz_w4_0 hl_w4_0; (with_reducible apply cel6 (b := w.heap.size + 1) hb_w4); (focus ((try simp) <;> omega)); (focus omega); (focus (go_simp; try exact rfl)); (focus (go_simp; try exact rfl)); (focus (go_simp; try exact rfl)); (focus (go_simp; try exact rfl)); (focus (go_simp; try exact rfl)); (focus (go_simp; try exact rfl)); (focus (intro o; go_simp)); intro c_w4_1_0 c_w4_1_1 c_w4_1_2 c_w4_1_3 c_w4_1_4 c_w4_1_5 fz_w4_1 hl_w4_1); refine wp_q (fun Q_ HQ_ => ?_); refine wp_region_floatQ w4.heap.size 8 [8] (Nat.le_refl _) (fun _ => True) trivial Cl.tt (by kernel_rfl) (by kernel_rfl) ?_
  replace H0 := Lib.hid (RAt.below (v := .agg #[.bool spx, .slice Apx npx cpx, .bool spy, .slice Apy npy cpy, .bool spd, .slice Apd npd cpd]) (x := x) (y := y) (d := d) (by ((repeat (first | (with_reducible exact H0.out) | (with_reducible refine RAt.al ?_ _) | (with_reducible apply RAt.st1))) <;> (first | (with_reducible assumption) | (intro _ e; cases e; done) | (go_simp; first | done | exact rfl)))) hb_w4)
  have HB4 := Lib.hid (show Below w.heap.size w w4 by ((with_reducible (repeat (first | exact bR _ _ | refine bS ?_ ?_ _ | refine bA ?_ ?_ _ | refine bD ?_ | refine bT ?_ (by assumption) ?_ | refine bO (by assumption) ?_ ?_))) <;> (first | omega | (simp; done) | (simp <;> omega))))
  have hz4 : w.heap.size + 1 + 1 ≤ w4.heap.size := by omega
  clear hb_w4
  skip
  refine wpQI_start [0, 1] ?_; (iterate 2 (first | (refine wpQI_off (by with_reducible (refine List.getElem?_toArray.trans ?_; (repeat (first | exact List.getElem?_cons_zero | refine List.getElem?_cons_succ.trans ?_)))) (by kernel_rfl) (by exact rfl) (fun K hK => ?_); go_simp; refine hK _ ?_; clear hK K) | ((first | apply wpQI_step (by with_reducible (refine List.getElem?_toArray.trans ?_; (repeat (first | exact List.getElem?_cons_zero | refine List.getElem?_cons_succ.trans ?_)))) (by kernel_rfl) (by exact rfl) | apply wpQI_on (by with_reducible (refine List.getElem?_toArray.trans ?_; (repeat (first | exact List.getElem?_cons_zero | refine List.getElem?_cons_succ.trans ?_)))) (by kernel_rfl) (by exact rfl)); (focus (intro W' hS; have hcS := hS.cells.1; have hfS := hS.cells.2; go_simp; (first | done | exact rfl | exact ⟨rfl, Below.refl _ _⟩ | (go_simp; first | done | exact rfl | exact ⟨rfl, Below.refl _ _⟩)))); intro K hK; go_simp; (try go_bits); refine hK _ ?_; clear hK K))); refine wpQI_nil ?_
  refine wpQI_start [3, 4, 5, 6] ?_; (iterate 4 (first | (refine wpQI_off (by with_reducible (refine List.getElem?_toArray.trans ?_; (repeat (first | exact List.getElem?_cons_zero | refine List.getElem?_cons_succ.trans ?_)))) (by kernel_rfl) (by exact rfl) (fun K hK => ?_); go_simp; refine hK _ ?_; clear hK K) | ((first | apply wpQI_step (by with_reducible (refine List.getElem?_toArray.trans ?_; (repeat (first | exact List.getElem?_cons_zero | refine List.getElem?_cons_succ.trans ?_)))) (by kernel_rfl) (by exact rfl) | apply wpQI_on (by with_reducible (refine List.getElem?_toArray.trans ?_; (repeat (first | exact List.getElem?_cons_zero | refine List.getElem?_cons_succ.trans ?_)))) (by kernel_rfl) (by exact rfl)); (focus (intro W' hS; have hcS := hS.cells.1; have hfS := hS.cells.2; go_simp; (first | done | exact rfl | exact ⟨rfl, Below.refl _ _⟩ | (go_simp; first | done | exact rfl | exact ⟨rfl, Below.refl _ _⟩)))); intro K hK; go_simp; (try go_bits); refine hK _ ?_; clear hK K))); refine wpQI_nil ?_
  apply wpQ_call (i := 2) (by with_reducible (refine List.getElem?_toArray.trans ?_; (repeat (first | exact List.getElem?_cons_zero | refine List.getElem?_cons_succ.trans ?_)))) (by kernel_rfl) (by exact rfl); intro W hF hS; have hcS := hS.1.cells.1; have hfS := hS.1.cells.2; go_simp; (go_at_call 46; refine (K1.out _ _ ((RAt.px (H0.out.below hS.1.2)).zl LX.out)).mono ?_; rintro e w5 ⟨hb_w5, v5, rfl, hv5⟩; refine XPost.mk _ (fun W => IsC W v5 (X)) hb_w5 (hv5) (IsC.cl _ _) ?_); clear hb_w5 hcS hfS hS hF
  intro K hK; go_simp; (try go_bits); refine hK _ ?_; clear hK K
  obtain ⟨s5, A5, n5, c5, rfl⟩ := IsC.val hv5
  clear hv5
  refine wpQI_start [7] ?_; (iterate 1 (first | (refine wpQI_off (by with_reducible (refine List.getElem?_toArray.trans ?_; (repeat (first | exact List.getElem?_cons_zero | refine List.getElem?_cons_succ.trans ?_)))) (by kernel_rfl) (by exact rfl) (fun K hK => ?_); go_simp; refine hK _ ?_; clear hK K) | ((first | apply wpQI_step (by with_reducible (refine List.getElem?_toArray.trans ?_; (repeat (first | exact List.getElem?_cons_zero | refine List.getElem?_cons_succ.trans ?_)))) (by kernel_rfl) (by exact rfl) | apply wpQI_on (by with_reducible (refine List.getElem?_toArray.trans ?_; (repeat (first | exact List.getElem?_cons_zero | refine List.getElem?_cons_succ.trans ?_)))) (by kernel_rfl) (by exact rfl)); (focus (intro W' hS; have hcS := hS.cells.1; have hfS := hS.cells.2; go_simp; (first | done | exact rfl | exact ⟨rfl, Below.refl _ _⟩ | (go_simp; first | done | exact rfl | exact ⟨rfl, Below.refl _ _⟩)))); intro K hK; go_simp; (try go_bits); refine hK _ ?_; clear hK K))); refine wpQI_nil ?_
  refine wpQ_done (by kernel_rfl) ?_
  intro w6 hF_w6 hSG
  have hz_w6 := hSG.1.1
  have hb_w6 := hSG.1.2
  clear hSG
  (with_reducible apply cel6 (b := w.heap.size) hb_w6); (focus ((try simp) <;> omega)); (focus omega); (focus (go_simp; try exact rfl)); (focus (go_simp; try exact rfl)); (focus (go_simp; try exact rfl)); (focus (go_simp; try exact rfl)); (focus (go_simp; try exact rfl)); (focus (go_simp; try exact rfl)); (focus (intro o; go_simp)); intro c_w6_0_0 c_w6_0_1 c_w6_0_2 c_w6_0_3 c_w6_0_4 c_w6_0_5 fz_w6_0 hl_w6_0; (with_reducible apply cel6 (b := w.heap.size + 1) hb_w6); (focus ((try simp) <;> omega)); (focus omega); (focus (go_simp; try exact rfl)); (focus (go_simp; try exact rfl)); (focus (go_simp; try exact rfl)); (focus (go_simp; try exact rfl)); (focus (go_simp; try exact rfl)); (focus (go_simp; try exact rfl)); (focus (intro o; go_simp)); intro c_w6_1_0 c_w6_1_1 c_w6_1_2 c_w6_1_3 c_w6_1_4 c_w6_1_5 fz_w6_1 hl_w6_1
  (try simp only [List.filterMap_cons, List.filterMap_nil, List.getElem?_cons_succ, List.getElem?_cons_zero])
  replace H0 := Lib.hid (H0.out.below hb_w6)
  have H5 := Lib.hid (show IsC w6 (.agg #[.bool s5, .slice A5 n5 c5]) (X) from hF_w6)
  have HB6 := Lib.hid (HB4.out.trans (hb_w6.mono (by have := HB4.out.size; omega)))
  have hz6 : w.heap.size + 1 + 1 ≤ w6.heap.size := by omega
  clear hF_w6 hb_w6
  clear c_w4_0_0 c_w4_0_1 c_w4_0_2 c_w4_0_3 c_w4_0_4 c_w4_0_5 fz_w4_0 hl_w4_0 c_w4_1_0 c_w4_1_1 c_w4_1_2 c_w4_1_3 c_w4_1_4 c_w4_1_5 fz_w4_1 hl_w4_1
  go_wp2_with fail
  refine HQ_.out _ _ _ ?_
  clear HQ_ Q_
  go_wp2_with fail
  -- own blocks: w.heap.size + 1:6
  refine bodyPost_ret (v := .agg #[.bool s5, .slice A5 n5 c5, .bool spy, .slice Apy npy cpy, .bool spd, .slice Apd npd cpd]) (by simp only [results, Try.results53]; go_simp) rfl ⟨?_, ?_⟩
  · have hB := HB6.out; ((with_reducible (repeat (first | exact bR _ _ | refine bS ?_ ?_ _ | refine bA ?_ ?_ _ | refine bD ?_ | refine bT ?_ (by assumption) ?_ | refine bO (by assumption) ?_ ?_))) <;> (first | omega | (simp; done) | (simp <;> omega)))
  · exact ⟨_, rfl, ⟨_, _, _, _, _, _, _, _, _, _, _, _, rfl, (by ((repeat (first | (with_reducible exact H5.out) | (with_reducible refine IsC.al ?_ _) | (with_reducible apply IsC.st1))) <;> (first | (with_reducible assumption) | (intro _ e; cases e; done) | (go_simp; first | done | exact rfl)))), (RAt.py (by ((repeat (first | (with_reducible exact H0.out) | (with_reducible refine RAt.al ?_ _) | (with_reducible apply RAt.st1))) <;> (first | (with_reducible assumption) | (intro _ e; cases e; done) | (go_simp; first | done | exact rfl))))), (RAt.pd (by ((repeat (first | (with_reducible exact H0.out) | (with_reducible refine RAt.al ?_ _) | (with_reducible apply RAt.st1))) <;> (first | (with_reducible assumption) | (intro _ e; cases e; done) | (go_simp; first | done | exact rfl)))))⟩⟩
set_option maxRecDepth 100000 in
set_option maxHeartbeats 20000000 in
theorem permitted15_any (v1 v2 n1 n2 : Int) (w : World) :
    Calls Try.prog 33 #[.agg #[.int .i64 v1, .int .i64 v2], .agg #[.int .i64 n1, .int .i64 n2]] w fun e w' => e = .returned (.bool (withinB v1 v2 1048576 && withinB n1 n2 2097152)) ∧ Below w.heap.size w w' := by
  have k1 := fun w => rspeed_any v1 v2 w
  have k2 := fun w => rdirection_any n1 n2 w
  generalize withinB v1 v2 1048576 = c1 at *
  generalize withinB n1 n2 2097152 = c2 at *
  have K1 := Lib.hid k1
  have K2 := Lib.hid k2
  clear k1 k2
  go_enter Try.func33, Try.ntmps33; (try simp only [List.append_eq, List.cons_append, List.nil_append])
  go_wp2_with fail
  -- own blocks: w.heap.size:2, w.heap.size + 1:2
  (go_at_call 34; refine (K1.out _).mono ?_; rintro e w1 ⟨rfl, hb_w1⟩; have hz_w1 := hb_w1.size; (try simp at hz_w1); (with_reducible apply cel2 (b := w.heap.size) hb_w1); (focus ((try simp) <;> omega)); (focus omega); (focus (go_simp; try exact rfl)); (focus (go_simp; try exact rfl)); (focus (intro o; go_simp)); intro c_w1_0_0 c_w1_0_1 fz_w1_0 hl_w1_0; (with_reducible apply cel2 (b := w.heap.size + 1) hb_w1); (focus ((try simp) <;> omega)); (focus omega); (focus (go_simp; try exact rfl)); (focus (go_simp; try exact rfl)); (focus (intro o; go_simp)); intro c_w1_1_0 c_w1_1_1 fz_w1_1 hl_w1_1)
  cases c1
  · go_wp2_with fail
    go_ret
    exact ⟨rfl, by ((with_reducible (repeat (first | exact bR _ _ | refine bS ?_ ?_ _ | refine bA ?_ ?_ _ | refine bD ?_ | refine bT ?_ (by assumption) ?_ | refine bO (by assumption) ?_ ?_))) <;> (first | omega | (simp; done) | (simp <;> omega)))⟩
  · go_wp2_with fail
    (go_at_call 71; refine (K2.out _).mono ?_; rintro e w2 ⟨rfl, hb_w2⟩; have hz_w2 := hb_w2.size; (try simp at hz_w2); (with_reducible apply cel2 (b := w.heap.size) hb_w2); (focus ((try simp) <;> omega)); (focus omega); (focus (go_simp; try exact rfl)); (focus (go_simp; try exact rfl)); (focus (intro o; go_simp)); intro c_w2_0_0 c_w2_0_1 fz_w2_0 hl_w2_0; (with_reducible apply cel2 (b := w.heap.size + 1) hb_w2); (focus ((try simp) <;> omega)); (focus omega); (focus (go_simp; try exact rfl)); (focus (go_simp; try exact rfl)); (focus (intro o; go_simp)); intro c_w2_1_0 c_w2_1_1 fz_w2_1 hl_w2_1)
    go_wp2_with fail
    go_ret
    exact ⟨by cases c2 <;> rfl, by ((with_reducible (repeat (first | exact bR _ _ | refine bS ?_ ?_ _ | refine bA ?_ ?_ _ | refine bD ?_ | refine bT ?_ (by assumption) ?_ | refine bO (by assumption) ?_ ?_))) <;> (first | omega | (simp; done) | (simp <;> omega)))⟩
def partR (n : Int) : Int := n % 16
theorem partR_bd (n : Int) : 0 ≤ partR n ∧ partR n ≤ 15 := by unfold partR; omega
set_option maxRecDepth 100000 in
set_option maxHeartbeats 20000000 in
theorem part15_any (n : Int) (w : World) :
    Calls Try.prog 35 #[.int .i64 n] w fun e w' => e = .returned (.int .i64 (partR n)) ∧ Below w.heap.size w w' := by
  have h := partR_bd n
  obtain ⟨m, hm⟩ : ∃ m, m = n.tmod 16 := ⟨_, rfl⟩
  have hm' := hm.symm
  have e : (0 ≤ n ∧ m = n % 16) ∨ (n < 0 ∧ m = -((-n) % 16)) := by
    rcases Int.lt_or_le n 0 with g | g
    · refine .inr ⟨g, ?_⟩
      rw [hm, ← Int.tmod_eq_emod_of_nonneg (show 0 ≤ -n by omega), Int.neg_tmod, Int.neg_neg]
    · exact .inl ⟨g, by rw [hm, Int.tmod_eq_emod_of_nonneg g]⟩
  have hp : partR n = if m < 0 then m + 16 else m := by unfold partR; split <;> omega
  have hb : -16 < m ∧ m < 16 := by omega
  clear e
  obtain ⟨b1, b2⟩ := hb
  clear hm
  by_cases g : m < 0
  · rw [if_pos g] at hp
    rw [hp]
    clear hp h
    go_enter Try.func35, Try.ntmps35; (try simp only [List.append_eq, List.cons_append, List.nil_append])
    go_wp2_with fail
    go_ret
    exact ⟨rfl, by ((with_reducible (repeat (first | exact bR _ _ | refine bS ?_ ?_ _ | refine bA ?_ ?_ _ | refine bD ?_ | refine bT ?_ (by assumption) ?_ | refine bO (by assumption) ?_ ?_))) <;> (first | omega | (simp; done) | (simp <;> omega)))⟩
  · rw [if_neg g] at hp
    rw [hp]
    clear hp h
    go_enter Try.func35, Try.ntmps35; (try simp only [List.append_eq, List.cons_append, List.nil_append])
    go_wp2_with fail
    go_ret
    exact ⟨rfl, by ((with_reducible (repeat (first | exact bR _ _ | refine bS ?_ ?_ _ | refine bA ?_ ?_ _ | refine bD ?_ | refine bT ?_ (by assumption) ?_ | refine bO (by assumption) ?_ ?_))) <;> (first | omega | (simp; done) | (simp <;> omega)))⟩
end Go.Proofs.Ytklkhnhieihfoaa
namespace Go.Proofs.Ytklkhnhieihfoaa
open Go Go.RowKit
set_option linter.unusedVariables false
theorem lowG_pos (x y d : Int) (hd : 0 < d) : (0 : Int) < lowG x y d := by
  unfold lowG
  have : 0 < Nat.gcd (Nat.gcd x.natAbs y.natAbs) d.natAbs := Nat.gcd_pos_of_pos_right _ (by omega)
  omega
theorem lowG_dvd (x y d : Int) : (lowG x y d : Int) ∣ x ∧ (lowG x y d : Int) ∣ y ∧ (lowG x y d : Int) ∣ d := by
  unfold lowG
  have h1 : Nat.gcd (Nat.gcd x.natAbs y.natAbs) d.natAbs ∣ Nat.gcd x.natAbs y.natAbs := Nat.gcd_dvd_left _ _
  exact ⟨Int.ofNat_dvd_left.2 (Nat.dvd_trans h1 (Nat.gcd_dvd_left _ _)), Int.ofNat_dvd_left.2 (Nat.dvd_trans h1 (Nat.gcd_dvd_right _ _)), Int.ofNat_dvd_left.2 (Nat.gcd_dvd_right _ _)⟩
theorem lowR_scale (k x y d : Int) (hk : 0 < k) (hd : 0 < d) : lowR (k * x) (k * y) (k * d) = lowR x y d := by
  have hp := lowG_pos x y d hd
  have e : (lowG (k * x) (k * y) (k * d) : Int) = k * (lowG x y d : Int) := by
    unfold lowG
    rw [Int.natAbs_mul, Int.natAbs_mul, Int.natAbs_mul, Nat.gcd_mul_left, Nat.gcd_mul_left, Int.natCast_mul, Int.natAbs_of_nonneg (Int.le_of_lt hk)]
  obtain ⟨h1, h2, h3⟩ := lowG_dvd x y d
  unfold lowR
  rw [e]
  have key : ∀ z : Int, (k * z).tdiv (k * (lowG x y d : Int)) = z.tdiv (lowG x y d : Int) := fun z => Int.mul_tdiv_mul_of_pos _ _ hk
  rw [key, key, key]
theorem lowR_neg (x y d : Int) : lowR (-x) y d = (-(lowR x y d).1, (lowR x y d).2.1, (lowR x y d).2.2) := by
  unfold lowR lowG
  rw [Int.natAbs_neg, Int.neg_tdiv]
theorem part_six (n : Int) : sixB (partR n) = true := by simp only [sixB, decide_eq_true_eq]; exact partR_bd n
end Go.Proofs.Ytklkhnhieihfoaa
namespace Go.Proofs.Ytklkhnhieihfoaa
open Go Go.RowKit
set_option linter.unusedVariables false
theorem rsame_lens {r : Int × Int × Int} (l : Lens r) (u v : Value) (w : World) (hu : RAt w u r.1 r.2.1 r.2.2) (hv : RAt w v r.1 r.2.1 r.2.2) :
    Calls Try.prog 30 #[u, v] w fun e w' => e = .returned (.bool true) ∧ Below w.heap.size w w' :=
  rsame_yes r.1 r.2.1 r.2.2 u v w hu hv (Nat.le_trans l.x (by decide)) (Nat.le_trans l.y (by decide)) (Nat.le_trans l.d (by decide))
theorem within_flip (a b n : Int) : withinB (-a) b n = withinB a b n := by
  unfold withinB
  exact decide_eq_decide.2 (by omega)
theorem within_negs (a b n : Int) : withinB (-a) (-b) n = withinB a b n := by
  unfold withinB
  exact decide_eq_decide.2 (by omega)
theorem perm_flip (v1 v2 w1 w2 n1 n2 : Int) : permB (-v1) v2 (-w1) w2 (-n1) n2 = permB v1 v2 w1 w2 n1 n2 := by
  unfold permB
  rw [within_flip, within_flip, within_flip]
theorem appr_iff {v1 v2 w1 w2 n1 n2 : Int} (hp : permB v1 v2 w1 w2 n1 n2 = true) : apprB v1 v2 w1 w2 n1 n2 = decide ((v1 - w1) * n1 + (v2 - w2) * n2 < 0) := by
  obtain ⟨e1, e2, _⟩ := perm_vals hp
  unfold apprB
  rw [hp, e1, Bool.true_and]
  simp only
  rw [e2]
theorem appr_flip {v1 v2 w1 w2 n1 n2 : Int} (hp : permB v1 v2 w1 w2 n1 n2 = true) : apprB (-v1) v2 (-w1) w2 (-n1) n2 = apprB v1 v2 w1 w2 n1 n2 := by
  rw [appr_iff hp, appr_iff (by rw [perm_flip]; exact hp)]
  have : (-v1 - -w1) * -n1 + (v2 - w2) * n2 = (v1 - w1) * n1 + (v2 - w2) * n2 := by grind
  rw [this]
theorem stat_flip {v1 v2 w1 w2 n1 n2 e g : Int} (hp : permB v1 v2 w1 w2 n1 n2 = true) (he : sixB e = true) (hg : sixB g = true) :
    statR (-v1) v2 (-w1) w2 (-n1) n2 e g = (-(statR v1 v2 w1 w2 n1 n2 e g).1, (statR v1 v2 w1 w2 n1 n2 e g).2.1, (statR v1 v2 w1 w2 n1 n2 e g).2.2) := by
  have hf := appr_flip hp
  cases ha : apprB v1 v2 w1 w2 n1 n2
  · rw [statR_off hp ha he hg, statR_off (by rw [perm_flip]; exact hp) (by rw [hf]; exact ha) he hg]
  · rw [statR_on ha he hg, statR_on (by rw [hf]; exact ha) he hg, ← lowR_neg]
    have hm : -n1 * -n1 + n2 * n2 = n1 * n1 + n2 * n2 := by rw [Int.neg_mul_neg]
    have hc : (-v1 - -w1) * -n1 + (v2 - w2) * n2 = (v1 - w1) * n1 + (v2 - w2) * n2 := by grind
    rw [hm, hc]
    have h1 : statX (-v1) (-v1 - -w1) (-n1) (n1 * n1 + n2 * n2) ((v1 - w1) * n1 + (v2 - w2) * n2) e g = -statX v1 (v1 - w1) n1 (n1 * n1 + n2 * n2) ((v1 - w1) * n1 + (v2 - w2) * n2) e g := by unfold statX; grind
    rw [h1]
theorem stat_three {v1 v2 w1 w2 n1 n2 e g : Int} (hp : permB v1 v2 w1 w2 n1 n2 = true) (hn : -524288 ≤ n1 ∧ n1 ≤ 524288 ∧ -524288 ≤ n2 ∧ n2 ≤ 524288) (he : sixB e = true) (hg : sixB g = true) :
    statR v1 v2 w1 w2 (3 * n1) (3 * n2) e g = statR v1 v2 w1 w2 n1 n2 e g := by
  have hp3 : permB v1 v2 w1 w2 (3 * n1) (3 * n2) = true := by
    unfold permB at hp ⊢
    rw [Bool.and_eq_true] at hp ⊢
    refine ⟨hp.1, ?_⟩
    simp only [withinB, decide_eq_true_eq]
    omega
  have hc : (v1 - w1) * (3 * n1) + (v2 - w2) * (3 * n2) = 3 * ((v1 - w1) * n1 + (v2 - w2) * n2) := by grind
  have hf : apprB v1 v2 w1 w2 (3 * n1) (3 * n2) = apprB v1 v2 w1 w2 n1 n2 := by
    rw [appr_iff hp, appr_iff hp3, hc]
    exact decide_eq_decide.2 (by omega)
  cases ha : apprB v1 v2 w1 w2 n1 n2
  · rw [statR_off hp ha he hg, statR_off hp3 (by rw [hf]; exact ha) he hg]
  · rw [statR_on ha he hg, statR_on (by rw [hf]; exact ha) he hg]
    obtain ⟨_, _, q⟩ := appr_bd ha
    have hm : 3 * n1 * (3 * n1) + 3 * n2 * (3 * n2) = 9 * (n1 * n1 + n2 * n2) := by grind
    rw [hm, hc, ← lowR_scale 9 _ _ _ (by decide) (show 0 < 16 * (n1 * n1 + n2 * n2) by omega)]
    have h1 : statX v1 (v1 - w1) (3 * n1) (9 * (n1 * n1 + n2 * n2)) (3 * ((v1 - w1) * n1 + (v2 - w2) * n2)) e g = 9 * statX v1 (v1 - w1) n1 (n1 * n1 + n2 * n2) ((v1 - w1) * n1 + (v2 - w2) * n2) e g := by unfold statX; grind
    have h2 : statX v2 (v2 - w2) (3 * n2) (9 * (n1 * n1 + n2 * n2)) (3 * ((v1 - w1) * n1 + (v2 - w2) * n2)) e g = 9 * statX v2 (v2 - w2) n2 (n1 * n1 + n2 * n2) ((v1 - w1) * n1 + (v2 - w2) * n2) e g := by unfold statX; grind
    have h3 : 16 * (9 * (n1 * n1 + n2 * n2)) = 9 * (16 * (n1 * n1 + n2 * n2)) := by omega
    rw [h1, h2, h3]
theorem pair_swap {v1 v2 w1 w2 n1 n2 e : Int} (hp : permB v1 v2 w1 w2 n1 n2 = true) (he : sixB e = true) :
    pairR w1 w2 v1 v2 (-n1) (-n2) e = ((pairR v1 v2 w1 w2 n1 n2 e).2, (pairR v1 v2 w1 w2 n1 n2 e).1) := by
  have hp2 : permB w1 w2 v1 v2 (-n1) (-n2) = true := by
    unfold permB at hp ⊢
    rw [within_negs, Bool.and_eq_true, Bool.and_eq_true] at *
    exact ⟨⟨hp.1.2, hp.1.1⟩, hp.2⟩
  have hc : (w1 - v1) * -n1 + (w2 - v2) * -n2 = (v1 - w1) * n1 + (v2 - w2) * n2 := by grind
  have hf : apprB w1 w2 v1 v2 (-n1) (-n2) = apprB v1 v2 w1 w2 n1 n2 := by rw [appr_iff hp, appr_iff hp2, hc]
  cases ha : apprB v1 v2 w1 w2 n1 n2
  · rw [pairR_off hp ha he, pairR_off hp2 (by rw [hf]; exact ha) he]
  · rw [pairR_on ha he, pairR_on (by rw [hf]; exact ha) he]
    have hm : -n1 * -n1 + -n2 * -n2 = n1 * n1 + n2 * n2 := by rw [Int.neg_mul_neg, Int.neg_mul_neg]
    rw [hm, hc]
    have key : ∀ z n : Int, pairX z (-n) (n1 * n1 + n2 * n2) ((v1 - w1) * n1 + (v2 - w2) * n2) e (-1) = pairX z n (n1 * n1 + n2 * n2) ((v1 - w1) * n1 + (v2 - w2) * n2) e 1 := fun z n => by unfold pairX; grind
    have key2 : ∀ z n : Int, pairX z (-n) (n1 * n1 + n2 * n2) ((v1 - w1) * n1 + (v2 - w2) * n2) e 1 = pairX z n (n1 * n1 + n2 * n2) ((v1 - w1) * n1 + (v2 - w2) * n2) e (-1) := fun z n => by unfold pairX; grind
    rw [key, key, key2, key2]
theorem small_flip (a b : Int) : smallB (-a) b = smallB a b := sm_flip (a, b)
theorem dot_flip2 (a b c d : Int) : dotR (-a) b (-c) d = dotR a b c d := by
  unfold dotR
  rw [small_flip, small_flip, Int.neg_mul_neg]
theorem kick_flip (n1 n2 s : Int) : kickR (-n1) n2 s = (-(kickR n1 n2 s).1, (kickR n1 n2 s).2) := by
  unfold kickR
  rw [within_flip, dot_flip2]
  split
  · rw [Int.mul_neg, Int.neg_tdiv]
  · simp
theorem str_flip {v1 v2 w1 w2 n1 n2 : Int} (hp : permB v1 v2 w1 w2 n1 n2 = true) : strR (-v1) v2 (-w1) w2 (-n1) n2 = strR v1 v2 w1 w2 n1 n2 := by
  unfold strR
  have hc : (-v1 - -w1) * -n1 + (v2 - w2) * n2 = (v1 - w1) * n1 + (v2 - w2) * n2 := by grind
  rw [appr_flip hp, hc, Int.neg_mul_neg]
theorem tdiv_sign (a n r : Int) (hr : 0 < r) (ha : 0 ≤ a) : 0 ≤ (a * n).tdiv r * n := by
  rcases Int.le_total 0 n with h | h
  · exact Int.mul_nonneg (Int.tdiv_nonneg (Int.mul_nonneg ha h) (by omega)) h
  · have e1 : (a * -n).tdiv r = -((a * n).tdiv r) := by rw [Int.mul_neg, Int.neg_tdiv]
    have e : (a * n).tdiv r * n = (a * -n).tdiv r * -n := by rw [e1, Int.neg_mul_neg]
    rw [e]
    exact Int.mul_nonneg (Int.tdiv_nonneg (Int.mul_nonneg ha (by omega)) (by omega)) (by omega)
theorem root_nn (n : Int) (h1 : n ≤ 2305843009213693952) : 0 ≤ rootR n := (root_bd (by omega)).1
theorem kick_dot {n1 n2 s : Int} : 0 ≤ (kickR n1 n2 s).1 * n1 + (kickR n1 n2 s).2 * n2 := by
  unfold kickR
  split
  · rename_i h
    have hd := dot_bd n1 n2 n1 n2
    have hr := root_nn (dotR n1 n2 n1 n2) (by omega)
    have a := tdiv_sign s n1 _ (show 0 < rootR (dotR n1 n2 n1 n2) by omega) h.2.2.1
    have b := tdiv_sign s n2 _ (show 0 < rootR (dotR n1 n2 n1 n2) by omega) h.2.2.1
    simp only
    omega
  · simp
theorem kick_bd {n1 n2 s : Int} : -68719476736 ≤ (kickR n1 n2 s).1 ∧ (kickR n1 n2 s).1 ≤ 68719476736 ∧ -68719476736 ≤ (kickR n1 n2 s).2 ∧ (kickR n1 n2 s).2 ≤ 68719476736 := by
  unfold kickR
  split
  · rename_i h
    obtain ⟨h1, h2, h3⟩ := h
    have b := within_bd2 h1
    have m1 := mulB s n1 16384 2097152 (by omega) (by omega)
    have m2 := mulB s n2 16384 2097152 (by omega) (by omega)
    have t1 := tdiv_bd1 (a := s * n1) h2
    have t2 := tdiv_bd1 (a := s * n2) h2
    simp only
    omega
  · simp
end Go.Proofs.Ytklkhnhieihfoaa
namespace Go.Proofs.Ytklkhnhieihfoaa
open Go Go.RowKit
set_option linter.unusedVariables false
set_option maxRecDepth 100000 in
set_option maxHeartbeats 20000000 in
theorem respondmirror_a (v1 v2 w1 w2 n1 n2 rest grip : Int) (w : World) (h1 : (withinB v1 v2 1048576 && withinB n1 n2 2097152) = false) :
    Calls Try.prog 10 #[.agg #[.int .i64 v1, .int .i64 v2, .int .i64 w1, .int .i64 w2, .int .i64 n1, .int .i64 n2], .int .i64 rest, .int .i64 grip] w fun e w' => e = .returned (.bool true) ∧ Below w.heap.size w w' := by
  have k1 := fun w => awake15_any w
  have k2 := fun w => permitted15_any v1 v2 n1 n2 w
  have k3 := fun w => rspeed_any w1 w2 w
  rw [h1] at k2
  have K1 := Lib.hid k1
  have K2 := Lib.hid k2
  have K3 := Lib.hid k3
  clear k1 k2 k3 h1
  -- names on
  go_enter Try.func10, Try.ntmps10; (try simp only [List.append_eq, List.cons_append, List.nil_append])
  go_wp2_with fail
  -- own blocks: w.heap.size:6
  (go_at_call 25; refine (K1.out _).mono ?_; rintro e w101 ⟨rfl, hb_w101⟩; have hz_w101 := hb_w101.size; (try simp at hz_w101); (with_reducible apply cel6 (b := w.heap.size) hb_w101); (focus ((try simp) <;> omega)); (focus omega); (focus (go_simp; try exact rfl)); (focus (go_simp; try exact rfl)); (focus (go_simp; try exact rfl)); (focus (go_simp; try exact rfl)); (focus (go_simp; try exact rfl)); (focus (go_simp; try exact rfl)); (focus (intro o; go_simp)); intro c_w101_0_0 c_w101_0_1 c_w101_0_2 c_w101_0_3 c_w101_0_4 c_w101_0_5 fz_w101_0 hl_w101_0)
  have HB101 := Lib.hid (show Below w.heap.size w w101 by ((with_reducible (repeat (first | exact bR _ _ | refine bS ?_ ?_ _ | refine bA ?_ ?_ _ | refine bD ?_ | refine bT ?_ (by assumption) ?_ | refine bO (by assumption) ?_ ?_))) <;> (first | omega | (simp; done) | (simp <;> omega))))
  have hz101 : w.heap.size + 1 ≤ w101.heap.size := by omega
  clear hb_w101
  skip
  go_wp2_with fail
  -- own blocks: w.heap.size:6
  (go_at_call 33; refine (K2.out _).mono ?_; rintro e w102 ⟨rfl, hb_w102⟩; have hz_w102 := hb_w102.size; (try simp at hz_w102); (with_reducible apply cel6 (b := w.heap.size) hb_w102); (focus ((try simp) <;> omega)); (focus omega); (focus (go_simp; try exact rfl)); (focus (go_simp; try exact rfl)); (focus (go_simp; try exact rfl)); (focus (go_simp; try exact rfl)); (focus (go_simp; try exact rfl)); (focus (go_simp; try exact rfl)); (focus (intro o; go_simp)); intro c_w102_0_0 c_w102_0_1 c_w102_0_2 c_w102_0_3 c_w102_0_4 c_w102_0_5 fz_w102_0 hl_w102_0)
  have HB102 := Lib.hid (show Below w.heap.size w w102 by have hB := HB101.out; ((with_reducible (repeat (first | exact bR _ _ | refine bS ?_ ?_ _ | refine bA ?_ ?_ _ | refine bD ?_ | refine bT ?_ (by assumption) ?_ | refine bO (by assumption) ?_ ?_))) <;> (first | omega | (simp; done) | (simp <;> omega))))
  have hz102 : w.heap.size + 1 ≤ w102.heap.size := by omega
  clear hb_w102
  clear c_w101_0_0 c_w101_0_1 c_w101_0_2 c_w101_0_3 c_w101_0_4 c_w101_0_5 fz_w101_0 hl_w101_0
  go_wp2_with fail
  -- own blocks: 
  (go_at_call 25; refine (K1.out _).mono ?_; rintro e w103 ⟨rfl, hb_w103⟩; have hz_w103 := hb_w103.size; (try simp at hz_w103); skip)
  have HB103 := Lib.hid (show Below w.heap.size w w103 by have hB := HB102.out; ((with_reducible (repeat (first | exact bR _ _ | refine bS ?_ ?_ _ | refine bA ?_ ?_ _ | refine bD ?_ | refine bT ?_ (by assumption) ?_ | refine bO (by assumption) ?_ ?_))) <;> (first | omega | (simp; done) | (simp <;> omega))))
  have hz103 : w.heap.size + 1 ≤ w103.heap.size := by omega
  clear hb_w103
  clear c_w102_0_0 c_w102_0_1 c_w102_0_2 c_w102_0_3 c_w102_0_4 c_w102_0_5 fz_w102_0 hl_w102_0
  go_wp2_with fail
  -- own blocks: 
  refine bodyPost_ret (v := .bool true) (by simp only [results, Try.results10]; go_simp) rfl ⟨?_, ?_⟩
  · rfl
  · have hB := HB103.out; ((with_reducible (repeat (first | exact bR _ _ | refine bS ?_ ?_ _ | refine bA ?_ ?_ _ | refine bD ?_ | refine bT ?_ (by assumption) ?_ | refine bO (by assumption) ?_ ?_))) <;> (first | omega | (simp; done) | (simp <;> omega)))
set_option maxRecDepth 100000 in
set_option maxHeartbeats 20000000 in
theorem respondmirror_b (v1 v2 w1 w2 n1 n2 rest grip : Int) (w : World) (h1 : (withinB v1 v2 1048576 && withinB n1 n2 2097152) = true) (h2 : withinB w1 w2 1048576 = false) :
    Calls Try.prog 10 #[.agg #[.int .i64 v1, .int .i64 v2, .int .i64 w1, .int .i64 w2, .int .i64 n1, .int .i64 n2], .int .i64 rest, .int .i64 grip] w fun e w' => e = .returned (.bool true) ∧ Below w.heap.size w w' := by
  have k1 := fun w => awake15_any w
  have k2 := fun w => permitted15_any v1 v2 n1 n2 w
  have k3 := fun w => rspeed_any w1 w2 w
  rw [h1] at k2
  rw [h2] at k3
  have K1 := Lib.hid k1
  have K2 := Lib.hid k2
  have K3 := Lib.hid k3
  clear k1 k2 k3 h1 h2
  -- names on
  go_enter Try.func10, Try.ntmps10; (try simp only [List.append_eq, List.cons_append, List.nil_append])
  go_wp2_with fail
  -- own blocks: w.heap.size:6
  (go_at_call 25; refine (K1.out _).mono ?_; rintro e w101 ⟨rfl, hb_w101⟩; have hz_w101 := hb_w101.size; (try simp at hz_w101); (with_reducible apply cel6 (b := w.heap.size) hb_w101); (focus ((try simp) <;> omega)); (focus omega); (focus (go_simp; try exact rfl)); (focus (go_simp; try exact rfl)); (focus (go_simp; try exact rfl)); (focus (go_simp; try exact rfl)); (focus (go_simp; try exact rfl)); (focus (go_simp; try exact rfl)); (focus (intro o; go_simp)); intro c_w101_0_0 c_w101_0_1 c_w101_0_2 c_w101_0_3 c_w101_0_4 c_w101_0_5 fz_w101_0 hl_w101_0)
  have HB101 := Lib.hid (show Below w.heap.size w w101 by ((with_reducible (repeat (first | exact bR _ _ | refine bS ?_ ?_ _ | refine bA ?_ ?_ _ | refine bD ?_ | refine bT ?_ (by assumption) ?_ | refine bO (by assumption) ?_ ?_))) <;> (first | omega | (simp; done) | (simp <;> omega))))
  have hz101 : w.heap.size + 1 ≤ w101.heap.size := by omega
  clear hb_w101
  skip
  go_wp2_with fail
  -- own blocks: w.heap.size:6
  (go_at_call 33; refine (K2.out _).mono ?_; rintro e w102 ⟨rfl, hb_w102⟩; have hz_w102 := hb_w102.size; (try simp at hz_w102); (with_reducible apply cel6 (b := w.heap.size) hb_w102); (focus ((try simp) <;> omega)); (focus omega); (focus (go_simp; try exact rfl)); (focus (go_simp; try exact rfl)); (focus (go_simp; try exact rfl)); (focus (go_simp; try exact rfl)); (focus (go_simp; try exact rfl)); (focus (go_simp; try exact rfl)); (focus (intro o; go_simp)); intro c_w102_0_0 c_w102_0_1 c_w102_0_2 c_w102_0_3 c_w102_0_4 c_w102_0_5 fz_w102_0 hl_w102_0)
  have HB102 := Lib.hid (show Below w.heap.size w w102 by have hB := HB101.out; ((with_reducible (repeat (first | exact bR _ _ | refine bS ?_ ?_ _ | refine bA ?_ ?_ _ | refine bD ?_ | refine bT ?_ (by assumption) ?_ | refine bO (by assumption) ?_ ?_))) <;> (first | omega | (simp; done) | (simp <;> omega))))
  have hz102 : w.heap.size + 1 ≤ w102.heap.size := by omega
  clear hb_w102
  clear c_w101_0_0 c_w101_0_1 c_w101_0_2 c_w101_0_3 c_w101_0_4 c_w101_0_5 fz_w101_0 hl_w101_0
  go_wp2_with fail
  -- own blocks: w.heap.size:6
  (go_at_call 34; refine (K3.out _).mono ?_; rintro e w103 ⟨rfl, hb_w103⟩; have hz_w103 := hb_w103.size; (try simp at hz_w103); (with_reducible apply cel6 (b := w.heap.size) hb_w103); (focus ((try simp) <;> omega)); (focus omega); (focus (go_simp; try exact rfl)); (focus (go_simp; try exact rfl)); (focus (go_simp; try exact rfl)); (focus (go_simp; try exact rfl)); (focus (go_simp; try exact rfl)); (focus (go_simp; try exact rfl)); (focus (intro o; go_simp)); intro c_w103_0_0 c_w103_0_1 c_w103_0_2 c_w103_0_3 c_w103_0_4 c_w103_0_5 fz_w103_0 hl_w103_0)
  have HB103 := Lib.hid (show Below w.heap.size w w103 by have hB := HB102.out; ((with_reducible (repeat (first | exact bR _ _ | refine bS ?_ ?_ _ | refine bA ?_ ?_ _ | refine bD ?_ | refine bT ?_ (by assumption) ?_ | refine bO (by assumption) ?_ ?_))) <;> (first | omega | (simp; done) | (simp <;> omega))))
  have hz103 : w.heap.size + 1 ≤ w103.heap.size := by omega
  clear hb_w103
  clear c_w102_0_0 c_w102_0_1 c_w102_0_2 c_w102_0_3 c_w102_0_4 c_w102_0_5 fz_w102_0 hl_w102_0
  go_wp2_with fail
  -- own blocks: 
  (go_at_call 25; refine (K1.out _).mono ?_; rintro e w104 ⟨rfl, hb_w104⟩; have hz_w104 := hb_w104.size; (try simp at hz_w104); skip)
  have HB104 := Lib.hid (show Below w.heap.size w w104 by have hB := HB103.out; ((with_reducible (repeat (first | exact bR _ _ | refine bS ?_ ?_ _ | refine bA ?_ ?_ _ | refine bD ?_ | refine bT ?_ (by assumption) ?_ | refine bO (by assumption) ?_ ?_))) <;> (first | omega | (simp; done) | (simp <;> omega))))
  have hz104 : w.heap.size + 1 ≤ w104.heap.size := by omega
  clear hb_w104
  clear c_w103_0_0 c_w103_0_1 c_w103_0_2 c_w103_0_3 c_w103_0_4 c_w103_0_5 fz_w103_0 hl_w103_0
  go_wp2_with fail
  -- own blocks: 
  refine bodyPost_ret (v := .bool true) (by simp only [results, Try.results10]; go_simp) rfl ⟨?_, ?_⟩
  · rfl
  · have hB := HB104.out; ((with_reducible (repeat (first | exact bR _ _ | refine bS ?_ ?_ _ | refine bA ?_ ?_ _ | refine bD ?_ | refine bT ?_ (by assumption) ?_ | refine bO (by assumption) ?_ ?_))) <;> (first | omega | (simp; done) | (simp <;> omega)))
set_option maxRecDepth 100000 in
set_option maxHeartbeats 20000000 in
theorem respondmirror_c (v1 v2 w1 w2 n1 n2 rest grip : Int) (w : World) (hp : permB v1 v2 w1 w2 n1 n2 = true) (hn : ¬ (-524288 ≤ n1 ∧ n1 ≤ 524288 ∧ -524288 ≤ n2 ∧ n2 ≤ 524288)) :
    Calls Try.prog 10 #[.agg #[.int .i64 v1, .int .i64 v2, .int .i64 w1, .int .i64 w2, .int .i64 n1, .int .i64 n2], .int .i64 rest, .int .i64 grip] w fun e w' => e = .returned (.bool true) ∧ Below w.heap.size w w' := by
  have hp' := hp
  unfold permB at hp'
  rw [Bool.and_eq_true, Bool.and_eq_true] at hp'
  obtain ⟨⟨c1, c2⟩, c3⟩ := hp'
  obtain ⟨bv, bw, bn⟩ := perm_bd hp
  have k1 := fun w => awake15_any w
  have k2 := fun w => permitted15_any v1 v2 n1 n2 w
  rw [c1, c3] at k2
  simp only [Bool.and_self] at k2
  have k3 := fun w => rspeed_any w1 w2 w
  rw [c2] at k3
  have k4 := fun w => part15_any rest w
  have k5 := fun w => part15_any grip w
  have he := part_six rest
  have hg := part_six grip
  generalize partR rest = e at *
  generalize partR grip = g at *
  obtain ⟨bn1, bn2, bn3, bn4⟩ := bn
  have K1 := Lib.hid k1
  have K2 := Lib.hid k2
  have K3 := Lib.hid k3
  have h4 : (524288 < n1) ∨ (¬ 524288 < n1 ∧ n1 < -524288) ∨ (¬ 524288 < n1 ∧ ¬ n1 < -524288 ∧ 524288 < n2) ∨ (¬ 524288 < n1 ∧ ¬ n1 < -524288 ∧ ¬ 524288 < n2 ∧ n2 < -524288) := by omega
  clear k1 k2 k3 k4 k5 c1 c2 c3 he hg hp hn bv bw
  rcases h4 with h4 | ⟨h4, h5⟩ | ⟨h4, h5, h6⟩ | ⟨h4, h5, h6, h7⟩
  all_goals
    -- names on
    go_enter Try.func10, Try.ntmps10; (try simp only [List.append_eq, List.cons_append, List.nil_append])
    go_wp2_with fail
    -- own blocks: w.heap.size:6
    (go_at_call 25; refine (K1.out _).mono ?_; rintro e w101 ⟨rfl, hb_w101⟩; have hz_w101 := hb_w101.size; (try simp at hz_w101); (with_reducible apply cel6 (b := w.heap.size) hb_w101); (focus ((try simp) <;> omega)); (focus omega); (focus (go_simp; try exact rfl)); (focus (go_simp; try exact rfl)); (focus (go_simp; try exact rfl)); (focus (go_simp; try exact rfl)); (focus (go_simp; try exact rfl)); (focus (go_simp; try exact rfl)); (focus (intro o; go_simp)); intro c_w101_0_0 c_w101_0_1 c_w101_0_2 c_w101_0_3 c_w101_0_4 c_w101_0_5 fz_w101_0 hl_w101_0)
    have HB101 := Lib.hid (show Below w.heap.size w w101 by ((with_reducible (repeat (first | exact bR _ _ | refine bS ?_ ?_ _ | refine bA ?_ ?_ _ | refine bD ?_ | refine bT ?_ (by assumption) ?_ | refine bO (by assumption) ?_ ?_))) <;> (first | omega | (simp; done) | (simp <;> omega))))
    have hz101 : w.heap.size + 1 ≤ w101.heap.size := by omega
    clear hb_w101
    skip
    go_wp2_with fail
    -- own blocks: w.heap.size:6
    (go_at_call 33; refine (K2.out _).mono ?_; rintro e w102 ⟨rfl, hb_w102⟩; have hz_w102 := hb_w102.size; (try simp at hz_w102); (with_reducible apply cel6 (b := w.heap.size) hb_w102); (focus ((try simp) <;> omega)); (focus omega); (focus (go_simp; try exact rfl)); (focus (go_simp; try exact rfl)); (focus (go_simp; try exact rfl)); (focus (go_simp; try exact rfl)); (focus (go_simp; try exact rfl)); (focus (go_simp; try exact rfl)); (focus (intro o; go_simp)); intro c_w102_0_0 c_w102_0_1 c_w102_0_2 c_w102_0_3 c_w102_0_4 c_w102_0_5 fz_w102_0 hl_w102_0)
    have HB102 := Lib.hid (show Below w.heap.size w w102 by have hB := HB101.out; ((with_reducible (repeat (first | exact bR _ _ | refine bS ?_ ?_ _ | refine bA ?_ ?_ _ | refine bD ?_ | refine bT ?_ (by assumption) ?_ | refine bO (by assumption) ?_ ?_))) <;> (first | omega | (simp; done) | (simp <;> omega))))
    have hz102 : w.heap.size + 1 ≤ w102.heap.size := by omega
    clear hb_w102
    clear c_w101_0_0 c_w101_0_1 c_w101_0_2 c_w101_0_3 c_w101_0_4 c_w101_0_5 fz_w101_0 hl_w101_0
    go_wp2_with fail
    -- own blocks: w.heap.size:6
    (go_at_call 34; refine (K3.out _).mono ?_; rintro e w103 ⟨rfl, hb_w103⟩; have hz_w103 := hb_w103.size; (try simp at hz_w103); (with_reducible apply cel6 (b := w.heap.size) hb_w103); (focus ((try simp) <;> omega)); (focus omega); (focus (go_simp; try exact rfl)); (focus (go_simp; try exact rfl)); (focus (go_simp; try exact rfl)); (focus (go_simp; try exact rfl)); (focus (go_simp; try exact rfl)); (focus (go_simp; try exact rfl)); (focus (intro o; go_simp)); intro c_w103_0_0 c_w103_0_1 c_w103_0_2 c_w103_0_3 c_w103_0_4 c_w103_0_5 fz_w103_0 hl_w103_0)
    have HB103 := Lib.hid (show Below w.heap.size w w103 by have hB := HB102.out; ((with_reducible (repeat (first | exact bR _ _ | refine bS ?_ ?_ _ | refine bA ?_ ?_ _ | refine bD ?_ | refine bT ?_ (by assumption) ?_ | refine bO (by assumption) ?_ ?_))) <;> (first | omega | (simp; done) | (simp <;> omega))))
    have hz103 : w.heap.size + 1 ≤ w103.heap.size := by omega
    clear hb_w103
    clear c_w102_0_0 c_w102_0_1 c_w102_0_2 c_w102_0_3 c_w102_0_4 c_w102_0_5 fz_w102_0 hl_w102_0
    go_wp2_with fail
    -- own blocks: 
    (go_at_call 25; refine (K1.out _).mono ?_; rintro e w104 ⟨rfl, hb_w104⟩; have hz_w104 := hb_w104.size; (try simp at hz_w104); skip)
    have HB104 := Lib.hid (show Below w.heap.size w w104 by have hB := HB103.out; ((with_reducible (repeat (first | exact bR _ _ | refine bS ?_ ?_ _ | refine bA ?_ ?_ _ | refine bD ?_ | refine bT ?_ (by assumption) ?_ | refine bO (by assumption) ?_ ?_))) <;> (first | omega | (simp; done) | (simp <;> omega))))
    have hz104 : w.heap.size + 1 ≤ w104.heap.size := by omega
    clear hb_w104
    clear c_w103_0_0 c_w103_0_1 c_w103_0_2 c_w103_0_3 c_w103_0_4 c_w103_0_5 fz_w103_0 hl_w103_0
    go_wp2_with fail
    -- own blocks: 
    refine bodyPost_ret (v := .bool true) (by simp only [results, Try.results10]; go_simp) rfl ⟨?_, ?_⟩
    · rfl
    · have hB := HB104.out; ((with_reducible (repeat (first | exact bR _ _ | refine bS ?_ ?_ _ | refine bA ?_ ?_ _ | refine bD ?_ | refine bT ?_ (by assumption) ?_ | refine bO (by assumption) ?_ ?_))) <;> (first | omega | (simp; done) | (simp <;> omega)))
theorem scale_three {n1 n2 : Int} (hn : -524288 ≤ n1 ∧ n1 ≤ 524288 ∧ -524288 ≤ n2 ∧ n2 ≤ 524288) : scaleR n1 n2 3 = (3 * n1, 3 * n2) := by
  unfold scaleR keptR
  rw [if_pos ⟨small_of (by omega), by omega, by omega⟩, if_pos (small_of (by omega)), Int.mul_comm n1 3, Int.mul_comm n2 3]
theorem scale_back {n1 n2 : Int} (hn : -524288 ≤ n1 ∧ n1 ≤ 524288 ∧ -524288 ≤ n2 ∧ n2 ≤ 524288) : scaleR n1 n2 (-1) = (-n1, -n2) := by
  unfold scaleR keptR
  rw [if_pos ⟨small_of (by omega), by omega, by omega⟩, if_pos (small_of (by omega)), Int.mul_neg_one, Int.mul_neg_one]
set_option maxRecDepth 100000 in
set_option maxHeartbeats 20000000 in
theorem respondmirror_yes (v1 v2 w1 w2 n1 n2 rest grip : Int) (w : World) (hp : permB v1 v2 w1 w2 n1 n2 = true) (hn : -524288 ≤ n1 ∧ n1 ≤ 524288 ∧ -524288 ≤ n2 ∧ n2 ≤ 524288) :
    Calls Try.prog 10 #[.agg #[.int .i64 v1, .int .i64 v2, .int .i64 w1, .int .i64 w2, .int .i64 n1, .int .i64 n2], .int .i64 rest, .int .i64 grip] w fun e w' => e = .returned (.bool true) ∧ Below w.heap.size w w' := by
  have hp' := hp
  unfold permB at hp'
  rw [Bool.and_eq_true, Bool.and_eq_true] at hp'
  obtain ⟨⟨c1, c2⟩, c3⟩ := hp'
  obtain ⟨bv, bw, bn⟩ := perm_bd hp
  have k1 := fun w => awake15_any w
  have k2 := fun w => permitted15_any v1 v2 n1 n2 w
  rw [c1, c3] at k2
  simp only [Bool.and_self] at k2
  have k3 := fun w => rspeed_any w1 w2 w
  rw [c2] at k3
  have k4 := fun w => part15_any rest w
  have k5 := fun w => part15_any grip w
  have he := part_six rest
  have hg := part_six grip
  generalize partR rest = e at *
  generalize partR grip = g at *
  have k6 := fun w => static_any v1 v2 w1 w2 n1 n2 e g w
  have k7 := fun w => flip15_any v1 v2 w (by omega)
  have k8 := fun w => flip15_any w1 w2 w (by omega)
  have k9 := fun w => flip15_any n1 n2 w (by omega)
  have k10 := fun w => static_any (-v1) v2 (-w1) w2 (-n1) n2 e g w
  rw [stat_flip hp he hg] at k10
  have k11 := fun w => vscale_any n1 n2 3 w
  rw [scale_three hn] at k11
  have k12 := fun w => static_any v1 v2 w1 w2 (3 * n1) (3 * n2) e g w
  rw [stat_three hp hn he hg] at k12
  have k13 := fun w => pair_any v1 v2 w1 w2 n1 n2 e w
  have k14 := fun w => vscale_any n1 n2 (-1) w
  rw [scale_back hn] at k14
  have k15 := fun w => pair_any w1 w2 v1 v2 (-n1) (-n2) e w
  rw [pair_swap hp he] at k15
  have k16 := fun w => kick_any n1 n2 100 w
  have k22 := fun w => kick_any (-n1) n2 100 w
  rw [kick_flip] at k22
  obtain ⟨kb1, kb2, kb3, kb4⟩ := @kick_bd n1 n2 100
  have k23 := fun w => flip15_any (kickR n1 n2 100).1 (kickR n1 n2 100).2 w (by omega)
  have k24 := fun w => strength_any (-v1) v2 (-w1) w2 (-n1) n2 w
  rw [str_flip hp] at k24
  have k25 := fun w => strength_any v1 v2 w1 w2 n1 n2 w
  have k26 := fun w => rdot_any (kickR n1 n2 100).1 (kickR n1 n2 100).2 n1 n2 w
  have hdt : 0 ≤ dotR (kickR n1 n2 100).1 (kickR n1 n2 100).2 n1 n2 := by
    unfold dotR
    split
    · exact kick_dot
    · exact Int.le_refl _
  obtain ⟨la, _⟩ := stat_lens v1 v2 w1 w2 n1 n2 e g
  obtain ⟨⟨lp, lq⟩, _⟩ := pair_lens v1 v2 w1 w2 n1 n2 e
  obtain ⟨m1, hm1⟩ : ∃ m1, m1 = 3 * n1 := ⟨_, rfl⟩
  obtain ⟨m2, hm2⟩ : ∃ m2, m2 = 3 * n2 := ⟨_, rfl⟩
  obtain ⟨r1, hr1⟩ : ∃ r1, r1 = -n1 := ⟨_, rfl⟩
  obtain ⟨r2, hr2⟩ : ∃ r2, r2 = -n2 := ⟨_, rfl⟩
  rw [← hm1, ← hm2] at k11 k12
  rw [← hr1, ← hr2] at k14 k15
  clear hm1 hm2 hr1 hr2
  unfold TOut at k6 k10 k12
  unfold POut2 at k13 k15
  generalize dotR (kickR n1 n2 100).1 (kickR n1 n2 100).2 n1 n2 = Dt at *
  generalize strR v1 v2 w1 w2 n1 n2 = S at *
  generalize kickR n1 n2 100 = KK at *
  obtain ⟨x, y⟩ := KK
  generalize statR v1 v2 w1 w2 n1 n2 e g = A at *
  generalize pairR v1 v2 w1 w2 n1 n2 e = PQ at *
  obtain ⟨⟨p1, p2, p3⟩, ⟨q1, q2, q3⟩⟩ := PQ
  obtain ⟨a1, a2, a3⟩ := A
  have lan : Lens (-a1, a2, a3) := ⟨by simp only; rw [Int.natAbs_neg]; exact la.x, la.y, la.d⟩
  have k17 := fun v w h => flipped15_any a1 a2 a3 v w h (by have := la.x; simp only at this; omega)
  have k18 := fun u v w h1 h2 => rsame_lens (r := ((-a1, a2, a3))) lan u v w h1 h2
  have k19 := fun u v w h1 h2 => rsame_lens (r := ((a1, a2, a3))) la u v w h1 h2
  have k20 := fun u v w h1 h2 => rsame_lens (r := ((q1, q2, q3))) lq u v w h1 h2
  have k21 := fun u v w h1 h2 => rsame_lens (r := ((p1, p2, p3))) lp u v w h1 h2
  simp only at *
  have K1 := Lib.hid k1
  have K2 := Lib.hid k2
  have K3 := Lib.hid k3
  have K4 := Lib.hid k4
  have K5 := Lib.hid k5
  have K6 := Lib.hid k6
  have K7 := Lib.hid k7
  have K8 := Lib.hid k8
  have K9 := Lib.hid k9
  have K10 := Lib.hid k10
  have K11 := Lib.hid k11
  have K12 := Lib.hid k12
  have K13 := Lib.hid k13
  have K14 := Lib.hid k14
  have K15 := Lib.hid k15
  have K16 := Lib.hid k16
  have K17 := Lib.hid k17
  have K18 := Lib.hid k18
  have K19 := Lib.hid k19
  have K20 := Lib.hid k20
  have K21 := Lib.hid k21
  have K22 := Lib.hid k22
  have K23 := Lib.hid k23
  have K24 := Lib.hid k24
  have K25 := Lib.hid k25
  have K26 := Lib.hid k26
  obtain ⟨bv1, bv2, bv3, bv4⟩ := bv
  obtain ⟨bw1, bw2, bw3, bw4⟩ := bw
  obtain ⟨bn1, bn2, bn3, bn4⟩ := bn
  obtain ⟨hn1, hn2, hn3, hn4⟩ := hn
  clear k1 k2 k3 k4 k5 k6 k7 k8 k9 k10 k11 k12 k13 k14 k15 k16 k17 k18 k19 k20 k21 k22 k23 k24 k25 k26 la lp lq lan hp he hg c1 c2 c3
  -- names on
  go_enter Try.func10, Try.ntmps10; (try simp only [List.append_eq, List.cons_append, List.nil_append])
  go_wp2_with fail
  -- own blocks: w.heap.size:6
  (go_at_call 25; refine (K1.out _).mono ?_; rintro e w101 ⟨rfl, hb_w101⟩; have hz_w101 := hb_w101.size; (try simp at hz_w101); (with_reducible apply cel6 (b := w.heap.size) hb_w101); (focus ((try simp) <;> omega)); (focus omega); (focus (go_simp; try exact rfl)); (focus (go_simp; try exact rfl)); (focus (go_simp; try exact rfl)); (focus (go_simp; try exact rfl)); (focus (go_simp; try exact rfl)); (focus (go_simp; try exact rfl)); (focus (intro o; go_simp)); intro c_w101_0_0 c_w101_0_1 c_w101_0_2 c_w101_0_3 c_w101_0_4 c_w101_0_5 fz_w101_0 hl_w101_0)
  have HB101 := Lib.hid (show Below w.heap.size w w101 by ((with_reducible (repeat (first | exact bR _ _ | refine bS ?_ ?_ _ | refine bA ?_ ?_ _ | refine bD ?_ | refine bT ?_ (by assumption) ?_ | refine bO (by assumption) ?_ ?_))) <;> (first | omega | (simp; done) | (simp <;> omega))))
  have hz101 : w.heap.size + 1 ≤ w101.heap.size := by omega
  clear hb_w101
  skip
  go_wp2_with fail
  -- own blocks: w.heap.size:6
  (go_at_call 33; refine (K2.out _).mono ?_; rintro e w102 ⟨rfl, hb_w102⟩; have hz_w102 := hb_w102.size; (try simp at hz_w102); (with_reducible apply cel6 (b := w.heap.size) hb_w102); (focus ((try simp) <;> omega)); (focus omega); (focus (go_simp; try exact rfl)); (focus (go_simp; try exact rfl)); (focus (go_simp; try exact rfl)); (focus (go_simp; try exact rfl)); (focus (go_simp; try exact rfl)); (focus (go_simp; try exact rfl)); (focus (intro o; go_simp)); intro c_w102_0_0 c_w102_0_1 c_w102_0_2 c_w102_0_3 c_w102_0_4 c_w102_0_5 fz_w102_0 hl_w102_0)
  have HB102 := Lib.hid (show Below w.heap.size w w102 by have hB := HB101.out; ((with_reducible (repeat (first | exact bR _ _ | refine bS ?_ ?_ _ | refine bA ?_ ?_ _ | refine bD ?_ | refine bT ?_ (by assumption) ?_ | refine bO (by assumption) ?_ ?_))) <;> (first | omega | (simp; done) | (simp <;> omega))))
  have hz102 : w.heap.size + 1 ≤ w102.heap.size := by omega
  clear hb_w102
  clear c_w101_0_0 c_w101_0_1 c_w101_0_2 c_w101_0_3 c_w101_0_4 c_w101_0_5 fz_w101_0 hl_w101_0
  go_wp2_with fail
  -- own blocks: w.heap.size:6
  (go_at_call 34; refine (K3.out _).mono ?_; rintro e w103 ⟨rfl, hb_w103⟩; have hz_w103 := hb_w103.size; (try simp at hz_w103); (with_reducible apply cel6 (b := w.heap.size) hb_w103); (focus ((try simp) <;> omega)); (focus omega); (focus (go_simp; try exact rfl)); (focus (go_simp; try exact rfl)); (focus (go_simp; try exact rfl)); (focus (go_simp; try exact rfl)); (focus (go_simp; try exact rfl)); (focus (go_simp; try exact rfl)); (focus (intro o; go_simp)); intro c_w103_0_0 c_w103_0_1 c_w103_0_2 c_w103_0_3 c_w103_0_4 c_w103_0_5 fz_w103_0 hl_w103_0)
  have HB103 := Lib.hid (show Below w.heap.size w w103 by have hB := HB102.out; ((with_reducible (repeat (first | exact bR _ _ | refine bS ?_ ?_ _ | refine bA ?_ ?_ _ | refine bD ?_ | refine bT ?_ (by assumption) ?_ | refine bO (by assumption) ?_ ?_))) <;> (first | omega | (simp; done) | (simp <;> omega))))
  have hz103 : w.heap.size + 1 ≤ w103.heap.size := by omega
  clear hb_w103
  clear c_w102_0_0 c_w102_0_1 c_w102_0_2 c_w102_0_3 c_w102_0_4 c_w102_0_5 fz_w102_0 hl_w102_0
  go_wp2_with fail
  -- own blocks: w.heap.size:6
  (go_at_call 35; refine (K4.out _).mono ?_; rintro e w104 ⟨rfl, hb_w104⟩; have hz_w104 := hb_w104.size; (try simp at hz_w104); (with_reducible apply cel6 (b := w.heap.size) hb_w104); (focus ((try simp) <;> omega)); (focus omega); (focus (go_simp; try exact rfl)); (focus (go_simp; try exact rfl)); (focus (go_simp; try exact rfl)); (focus (go_simp; try exact rfl)); (focus (go_simp; try exact rfl)); (focus (go_simp; try exact rfl)); (focus (intro o; go_simp)); intro c_w104_0_0 c_w104_0_1 c_w104_0_2 c_w104_0_3 c_w104_0_4 c_w104_0_5 fz_w104_0 hl_w104_0)
  have HB104 := Lib.hid (show Below w.heap.size w w104 by have hB := HB103.out; ((with_reducible (repeat (first | exact bR _ _ | refine bS ?_ ?_ _ | refine bA ?_ ?_ _ | refine bD ?_ | refine bT ?_ (by assumption) ?_ | refine bO (by assumption) ?_ ?_))) <;> (first | omega | (simp; done) | (simp <;> omega))))
  have hz104 : w.heap.size + 1 ≤ w104.heap.size := by omega
  clear hb_w104
  clear c_w103_0_0 c_w103_0_1 c_w103_0_2 c_w103_0_3 c_w103_0_4 c_w103_0_5 fz_w103_0 hl_w103_0
  go_wp2_with fail
  -- own blocks: w.heap.size:6
  (go_at_call 35; refine (K5.out _).mono ?_; rintro e w105 ⟨rfl, hb_w105⟩; have hz_w105 := hb_w105.size; (try simp at hz_w105); (with_reducible apply cel6 (b := w.heap.size) hb_w105); (focus ((try simp) <;> omega)); (focus omega); (focus (go_simp; try exact rfl)); (focus (go_simp; try exact rfl)); (focus (go_simp; try exact rfl)); (focus (go_simp; try exact rfl)); (focus (go_simp; try exact rfl)); (focus (go_simp; try exact rfl)); (focus (intro o; go_simp)); intro c_w105_0_0 c_w105_0_1 c_w105_0_2 c_w105_0_3 c_w105_0_4 c_w105_0_5 fz_w105_0 hl_w105_0)
  have HB105 := Lib.hid (show Below w.heap.size w w105 by have hB := HB104.out; ((with_reducible (repeat (first | exact bR _ _ | refine bS ?_ ?_ _ | refine bA ?_ ?_ _ | refine bD ?_ | refine bT ?_ (by assumption) ?_ | refine bO (by assumption) ?_ ?_))) <;> (first | omega | (simp; done) | (simp <;> omega))))
  have hz105 : w.heap.size + 1 ≤ w105.heap.size := by omega
  clear hb_w105
  clear c_w104_0_0 c_w104_0_1 c_w104_0_2 c_w104_0_3 c_w104_0_4 c_w104_0_5 fz_w104_0 hl_w104_0
  go_wp2_with fail
  -- own blocks: w.heap.size:6
  (go_at_call 31; refine (K6.out _).mono ?_; rintro e w106 ⟨hb_w106, v106, rfl, hv106⟩; have hz_w106 := hb_w106.size; (try simp at hz_w106); (with_reducible apply cel6 (b := w.heap.size) hb_w106); (focus ((try simp) <;> omega)); (focus omega); (focus (go_simp; try exact rfl)); (focus (go_simp; try exact rfl)); (focus (go_simp; try exact rfl)); (focus (go_simp; try exact rfl)); (focus (go_simp; try exact rfl)); (focus (go_simp; try exact rfl)); (focus (intro o; go_simp)); intro c_w106_0_0 c_w106_0_1 c_w106_0_2 c_w106_0_3 c_w106_0_4 c_w106_0_5 fz_w106_0 hl_w106_0)
  obtain ⟨s106x, A106x, n106x, c106x, s106y, A106y, n106y, c106y, s106d, A106d, n106d, c106d, rfl⟩ := RAt.val hv106
  have HB106 := Lib.hid (show Below w.heap.size w w106 by have hB := HB105.out; ((with_reducible (repeat (first | exact bR _ _ | refine bS ?_ ?_ _ | refine bA ?_ ?_ _ | refine bD ?_ | refine bT ?_ (by assumption) ?_ | refine bO (by assumption) ?_ ?_))) <;> (first | omega | (simp; done) | (simp <;> omega))))
  have hz106 : w.heap.size + 1 ≤ w106.heap.size := by omega
  clear hb_w106
  clear c_w105_0_0 c_w105_0_1 c_w105_0_2 c_w105_0_3 c_w105_0_4 c_w105_0_5 fz_w105_0 hl_w105_0
  have H106 := Lib.hid (show RAt w106 (.agg #[.bool s106x, .slice A106x n106x c106x, .bool s106y, .slice A106y n106y c106y, .bool s106d, .slice A106d n106d c106d]) (a1) (a2) (a3) from hv106)
  clear hv106
  go_wp2_with fail
  -- own blocks: w.heap.size:6, w106.heap.size:6
  (refine pin_wp (N := _) (Nat.le_refl _) (fun w107 hb_w107 hz_w107 => ?_); (try simp at hz_w107); (with_reducible apply cel6 (b := w.heap.size) hb_w107); (focus ((try simp) <;> omega)); (focus omega); (focus (go_simp; try exact rfl)); (focus (go_simp; try exact rfl)); (focus (go_simp; try exact rfl)); (focus (go_simp; try exact rfl)); (focus (go_simp; try exact rfl)); (focus (go_simp; try exact rfl)); (focus (intro o; go_simp)); intro c_w107_0_0 c_w107_0_1 c_w107_0_2 c_w107_0_3 c_w107_0_4 c_w107_0_5 fz_w107_0 hl_w107_0; (with_reducible apply cel6 (b := w106.heap.size) hb_w107); (focus ((try simp) <;> omega)); (focus omega); (focus (go_simp; try exact rfl)); (focus (go_simp; try exact rfl)); (focus (go_simp; try exact rfl)); (focus (go_simp; try exact rfl)); (focus (go_simp; try exact rfl)); (focus (go_simp; try exact rfl)); (focus (intro o; go_simp)); intro c_w107_1_0 c_w107_1_1 c_w107_1_2 c_w107_1_3 c_w107_1_4 c_w107_1_5 fz_w107_1 hl_w107_1); refine wp_q (fun Q_ HQ_ => ?_); refine wp_region_floatQ w107.heap.size 13 [13] (Nat.le_refl _) (fun _ => True) trivial Cl.tt (by kernel_rfl) (by kernel_rfl) ?_
  replace H106 := Lib.hid (RAt.below (v := .agg #[.bool s106x, .slice A106x n106x c106x, .bool s106y, .slice A106y n106y c106y, .bool s106d, .slice A106d n106d c106d]) (x := a1) (y := a2) (d := a3) (by ((repeat (first | (with_reducible exact H106.out) | (with_reducible refine RAt.al ?_ _) | (with_reducible apply RAt.st1))) <;> (first | (with_reducible assumption) | (intro _ e; cases e; done) | (go_simp; first | done | exact rfl)))) hb_w107)
  have HB107 := Lib.hid (show Below w.heap.size w w107 by have hB := HB106.out; ((with_reducible (repeat (first | exact bR _ _ | refine bS ?_ ?_ _ | refine bA ?_ ?_ _ | refine bD ?_ | refine bT ?_ (by assumption) ?_ | refine bO (by assumption) ?_ ?_))) <;> (first | omega | (simp; done) | (simp <;> omega))))
  have hz107 : w.heap.size + 1 ≤ w107.heap.size := by omega
  clear hb_w107
  clear c_w106_0_0 c_w106_0_1 c_w106_0_2 c_w106_0_3 c_w106_0_4 c_w106_0_5 fz_w106_0 hl_w106_0
  refine wpQI_start [0, 1] ?_; (iterate 2 (first | (refine wpQI_off (by with_reducible (refine List.getElem?_toArray.trans ?_; (repeat (first | exact List.getElem?_cons_zero | refine List.getElem?_cons_succ.trans ?_)))) (by kernel_rfl) (by exact rfl) (fun K hK => ?_); go_simp; refine hK _ ?_; clear hK K) | ((first | apply wpQI_step (by with_reducible (refine List.getElem?_toArray.trans ?_; (repeat (first | exact List.getElem?_cons_zero | refine List.getElem?_cons_succ.trans ?_)))) (by kernel_rfl) (by exact rfl) | apply wpQI_on (by with_reducible (refine List.getElem?_toArray.trans ?_; (repeat (first | exact List.getElem?_cons_zero | refine List.getElem?_cons_succ.trans ?_)))) (by kernel_rfl) (by exact rfl)); (focus (intro W' hS; have hcS := hS.cells.1; have hfS := hS.cells.2; go_simp; (first | done | exact rfl | exact ⟨rfl, Below.refl _ _⟩ | (go_simp; first | done | exact rfl | exact ⟨rfl, Below.refl _ _⟩)))); intro K hK; go_simp; (try go_bits); refine hK _ ?_; clear hK K))); refine wpQI_nil ?_
  refine wpQI_start [3, 4] ?_; (iterate 2 (first | (refine wpQI_off (by with_reducible (refine List.getElem?_toArray.trans ?_; (repeat (first | exact List.getElem?_cons_zero | refine List.getElem?_cons_succ.trans ?_)))) (by kernel_rfl) (by exact rfl) (fun K hK => ?_); go_simp; refine hK _ ?_; clear hK K) | ((first | apply wpQI_step (by with_reducible (refine List.getElem?_toArray.trans ?_; (repeat (first | exact List.getElem?_cons_zero | refine List.getElem?_cons_succ.trans ?_)))) (by kernel_rfl) (by exact rfl) | apply wpQI_on (by with_reducible (refine List.getElem?_toArray.trans ?_; (repeat (first | exact List.getElem?_cons_zero | refine List.getElem?_cons_succ.trans ?_)))) (by kernel_rfl) (by exact rfl)); (focus (intro W' hS; have hcS := hS.cells.1; have hfS := hS.cells.2; go_simp; (first | done | exact rfl | exact ⟨rfl, Below.refl _ _⟩ | (go_simp; first | done | exact rfl | exact ⟨rfl, Below.refl _ _⟩)))); intro K hK; go_simp; (try go_bits); refine hK _ ?_; clear hK K))); refine wpQI_nil ?_
  refine wpQI_start [6, 7] ?_; (iterate 2 (first | (refine wpQI_off (by with_reducible (refine List.getElem?_toArray.trans ?_; (repeat (first | exact List.getElem?_cons_zero | refine List.getElem?_cons_succ.trans ?_)))) (by kernel_rfl) (by exact rfl) (fun K hK => ?_); go_simp; refine hK _ ?_; clear hK K) | ((first | apply wpQI_step (by with_reducible (refine List.getElem?_toArray.trans ?_; (repeat (first | exact List.getElem?_cons_zero | refine List.getElem?_cons_succ.trans ?_)))) (by kernel_rfl) (by exact rfl) | apply wpQI_on (by with_reducible (refine List.getElem?_toArray.trans ?_; (repeat (first | exact List.getElem?_cons_zero | refine List.getElem?_cons_succ.trans ?_)))) (by kernel_rfl) (by exact rfl)); (focus (intro W' hS; have hcS := hS.cells.1; have hfS := hS.cells.2; go_simp; (first | done | exact rfl | exact ⟨rfl, Below.refl _ _⟩ | (go_simp; first | done | exact rfl | exact ⟨rfl, Below.refl _ _⟩)))); intro K hK; go_simp; (try go_bits); refine hK _ ?_; clear hK K))); refine wpQI_nil ?_
  refine wpQI_start [9, 10] ?_; (iterate 2 (first | (refine wpQI_off (by with_reducible (refine List.getElem?_toArray.trans ?_; (repeat (first | exact List.getElem?_cons_zero | refine List.getElem?_cons_succ.trans ?_)))) (by kernel_rfl) (by exact rfl) (fun K hK => ?_); go_simp; refine hK _ ?_; clear hK K) | ((first | apply wpQI_step (by with_reducible (refine List.getElem?_toArray.trans ?_; (repeat (first | exact List.getElem?_cons_zero | refine List.getElem?_cons_succ.trans ?_)))) (by kernel_rfl) (by exact rfl) | apply wpQI_on (by with_reducible (refine List.getElem?_toArray.trans ?_; (repeat (first | exact List.getElem?_cons_zero | refine List.getElem?_cons_succ.trans ?_)))) (by kernel_rfl) (by exact rfl)); (focus (intro W' hS; have hcS := hS.cells.1; have hfS := hS.cells.2; go_simp; (first | done | exact rfl | exact ⟨rfl, Below.refl _ _⟩ | (go_simp; first | done | exact rfl | exact ⟨rfl, Below.refl _ _⟩)))); intro K hK; go_simp; (try go_bits); refine hK _ ?_; clear hK K))); refine wpQI_nil ?_
  refine wpQI_start [2] ?_; (iterate 1 (first | (refine wpQI_off (by with_reducible (refine List.getElem?_toArray.trans ?_; (repeat (first | exact List.getElem?_cons_zero | refine List.getElem?_cons_succ.trans ?_)))) (by kernel_rfl) (by exact rfl) (fun K hK => ?_); go_simp; refine hK _ ?_; clear hK K) | ((first | apply wpQI_step (by with_reducible (refine List.getElem?_toArray.trans ?_; (repeat (first | exact List.getElem?_cons_zero | refine List.getElem?_cons_succ.trans ?_)))) (by kernel_rfl) (by exact rfl) | apply wpQI_on (by with_reducible (refine List.getElem?_toArray.trans ?_; (repeat (first | exact List.getElem?_cons_zero | refine List.getElem?_cons_succ.trans ?_)))) (by kernel_rfl) (by exact rfl)); (focus (intro W' hS; have hcS := hS.cells.1; have hfS := hS.cells.2; go_simp; (first | done | exact rfl | exact ⟨rfl, Below.refl _ _⟩ | (go_at_call 51; exact (K7.out _).mono (fun _ _ h => ⟨h.1, h.2⟩)) | (go_simp; first | done | exact rfl | exact ⟨rfl, Below.refl _ _⟩)))); intro K hK; go_simp; (try go_bits); refine hK _ ?_; clear hK K))); refine wpQI_nil ?_
  refine wpQI_start [5] ?_; (iterate 1 (first | (refine wpQI_off (by with_reducible (refine List.getElem?_toArray.trans ?_; (repeat (first | exact List.getElem?_cons_zero | refine List.getElem?_cons_succ.trans ?_)))) (by kernel_rfl) (by exact rfl) (fun K hK => ?_); go_simp; refine hK _ ?_; clear hK K) | ((first | apply wpQI_step (by with_reducible (refine List.getElem?_toArray.trans ?_; (repeat (first | exact List.getElem?_cons_zero | refine List.getElem?_cons_succ.trans ?_)))) (by kernel_rfl) (by exact rfl) | apply wpQI_on (by with_reducible (refine List.getElem?_toArray.trans ?_; (repeat (first | exact List.getElem?_cons_zero | refine List.getElem?_cons_succ.trans ?_)))) (by kernel_rfl) (by exact rfl)); (focus (intro W' hS; have hcS := hS.cells.1; have hfS := hS.cells.2; go_simp; (first | done | exact rfl | exact ⟨rfl, Below.refl _ _⟩ | (go_at_call 51; exact (K8.out _).mono (fun _ _ h => ⟨h.1, h.2⟩)) | (go_simp; first | done | exact rfl | exact ⟨rfl, Below.refl _ _⟩)))); intro K hK; go_simp; (try go_bits); refine hK _ ?_; clear hK K))); refine wpQI_nil ?_
  refine wpQI_start [8] ?_; (iterate 1 (first | (refine wpQI_off (by with_reducible (refine List.getElem?_toArray.trans ?_; (repeat (first | exact List.getElem?_cons_zero | refine List.getElem?_cons_succ.trans ?_)))) (by kernel_rfl) (by exact rfl) (fun K hK => ?_); go_simp; refine hK _ ?_; clear hK K) | ((first | apply wpQI_step (by with_reducible (refine List.getElem?_toArray.trans ?_; (repeat (first | exact List.getElem?_cons_zero | refine List.getElem?_cons_succ.trans ?_)))) (by kernel_rfl) (by exact rfl) | apply wpQI_on (by with_reducible (refine List.getElem?_toArray.trans ?_; (repeat (first | exact List.getElem?_cons_zero | refine List.getElem?_cons_succ.trans ?_)))) (by kernel_rfl) (by exact rfl)); (focus (intro W' hS; have hcS := hS.cells.1; have hfS := hS.cells.2; go_simp; (first | done | exact rfl | exact ⟨rfl, Below.refl _ _⟩ | (go_at_call 51; exact (K9.out _).mono (fun _ _ h => ⟨h.1, h.2⟩)) | (go_simp; first | done | exact rfl | exact ⟨rfl, Below.refl _ _⟩)))); intro K hK; go_simp; (try go_bits); refine hK _ ?_; clear hK K))); refine wpQI_nil ?_
  apply wpQ_call (i := 11) (by with_reducible (refine List.getElem?_toArray.trans ?_; (repeat (first | exact List.getElem?_cons_zero | refine List.getElem?_cons_succ.trans ?_)))) (by kernel_rfl) (by exact rfl); intro W hF hS; have hcS := hS.1.cells.1; have hfS := hS.1.cells.2; go_simp; (go_at_call 31; refine (K10.out _).mono ?_; rintro e w108 ⟨hb_w108, v108, rfl, hv108⟩; refine XPost.mk _ (fun W => RAt W v108 ((-a1)) (a2) (a3)) hb_w108 (hv108) (RAt.cl _ _ _ _) ?_); clear hb_w108 hcS hfS hS hF
  intro K hK; go_simp; (try go_bits); refine hK _ ?_; clear hK K
  obtain ⟨s108x, A108x, n108x, c108x, s108y, A108y, n108y, c108y, s108d, A108d, n108d, c108d, rfl⟩ := RAt.val hv108
  clear hv108
  apply wpQ_fresh (i := 12) LInv.std (by with_reducible (refine List.getElem?_toArray.trans ?_; (repeat (first | exact List.getElem?_cons_zero | refine List.getElem?_cons_succ.trans ?_)))) (by kernel_rfl) (fun g => Value.pointer (some ⟨g, 0, none⟩)) (by exact rfl); (focus (intro W; go_simp; first | done | exact rfl | exact ⟨rfl, rfl⟩))
  intro g_r7_12 hN_r7_12 hG_r7_12 K hK
  go_simp; refine hK _ ?_; clear hK K
  have hne : w.heap.size ≠ g_r7_12 := by have := hN_r7_12; omega
  have hne := Ne.symm hne
  have hne : w106.heap.size ≠ g_r7_12 := by have := hN_r7_12; omega
  have hne := Ne.symm hne
  refine wpQ_done (by kernel_rfl) ?_
  intro w109 hF_w109 hSG
  have hz_w109 := hSG.1.1
  have hb_w109 := hSG.1.2
  have hB_r7_12 := (hSG.2 _ (List.mem_cons_self ..)).2; simp only at hB_r7_12; have hl_r7_12 := (hSG.size (List.mem_cons_self ..)); simp only at hl_r7_12
  have c_w109_r7_12_0 := cell_of_row w109 g_r7_12 0 _ _ _ hB_r7_12; simp only [List.getElem?_toArray, List.getElem?_cons_zero] at c_w109_r7_12_0
  have c_w109_r7_12_1 := cell_of_row w109 g_r7_12 1 _ _ _ hB_r7_12; simp only [List.getElem?_toArray, List.getElem?_cons_zero, List.getElem?_cons_succ] at c_w109_r7_12_1
  have c_w109_r7_12_2 := cell_of_row w109 g_r7_12 2 _ _ _ hB_r7_12; simp only [List.getElem?_toArray, List.getElem?_cons_zero, List.getElem?_cons_succ] at c_w109_r7_12_2
  have c_w109_r7_12_3 := cell_of_row w109 g_r7_12 3 _ _ _ hB_r7_12; simp only [List.getElem?_toArray, List.getElem?_cons_zero, List.getElem?_cons_succ] at c_w109_r7_12_3
  have c_w109_r7_12_4 := cell_of_row w109 g_r7_12 4 _ _ _ hB_r7_12; simp only [List.getElem?_toArray, List.getElem?_cons_zero, List.getElem?_cons_succ] at c_w109_r7_12_4
  have c_w109_r7_12_5 := cell_of_row w109 g_r7_12 5 _ _ _ hB_r7_12; simp only [List.getElem?_toArray, List.getElem?_cons_zero, List.getElem?_cons_succ] at c_w109_r7_12_5
  have fz_w109_r7_12 : (∀ o, w109.frozen? ⟨g_r7_12, o, none⟩ = false) := (fun o => frozen_of_row w109 g_r7_12 o _ _ hB_r7_12); have HH_r7_12 := Lib.hid hB_r7_12; clear hB_r7_12
  clear hSG
  (with_reducible apply cel6 (b := w.heap.size) hb_w109); (focus ((try simp) <;> omega)); (focus omega); (focus (go_simp; try exact rfl)); (focus (go_simp; try exact rfl)); (focus (go_simp; try exact rfl)); (focus (go_simp; try exact rfl)); (focus (go_simp; try exact rfl)); (focus (go_simp; try exact rfl)); (focus (intro o; go_simp)); intro c_w109_0_0 c_w109_0_1 c_w109_0_2 c_w109_0_3 c_w109_0_4 c_w109_0_5 fz_w109_0 hl_w109_0; (with_reducible apply cel6 (b := w106.heap.size) hb_w109); (focus ((try simp) <;> omega)); (focus omega); (focus (go_simp; try exact rfl)); (focus (go_simp; try exact rfl)); (focus (go_simp; try exact rfl)); (focus (go_simp; try exact rfl)); (focus (go_simp; try exact rfl)); (focus (go_simp; try exact rfl)); (focus (intro o; go_simp)); intro c_w109_1_0 c_w109_1_1 c_w109_1_2 c_w109_1_3 c_w109_1_4 c_w109_1_5 fz_w109_1 hl_w109_1
  (try simp only [List.filterMap_cons, List.filterMap_nil, List.getElem?_cons_succ, List.getElem?_cons_zero])
  replace H106 := Lib.hid (H106.out.below hb_w109)
  have H108 := Lib.hid (show RAt w109 (.agg #[.bool s108x, .slice A108x n108x c108x, .bool s108y, .slice A108y n108y c108y, .bool s108d, .slice A108d n108d c108d]) ((-a1)) (a2) (a3) from hF_w109)
  have HB109 := Lib.hid (HB107.out.trans (hb_w109.mono (by have := HB107.out.size; omega)))
  have hz109 : w.heap.size + 1 ≤ w109.heap.size := by omega
  have hn_r7_12 : w.heap.size + 1 ≤ g_r7_12 := by have := hN_r7_12; omega
  clear hF_w109 hb_w109 HH_r7_12 hG_r7_12 hN_r7_12
  clear c_w107_0_0 c_w107_0_1 c_w107_0_2 c_w107_0_3 c_w107_0_4 c_w107_0_5 fz_w107_0 hl_w107_0 c_w107_1_0 c_w107_1_1 c_w107_1_2 c_w107_1_3 c_w107_1_4 c_w107_1_5 fz_w107_1 hl_w107_1
  go_wp2_with fail
  refine HQ_.out _ _ _ ?_
  clear HQ_ Q_
  go_wp2_with fail
  -- own blocks: w.heap.size:6, w106.heap.size:6, g_r7_12:6
  (refine pin_wp (N := _) (Nat.le_refl _) (fun w110 hb_w110 hz_w110 => ?_); (try simp at hz_w110); (with_reducible apply cel6 (b := w.heap.size) hb_w110); (focus ((try simp) <;> omega)); (focus omega); (focus (go_simp; try exact rfl)); (focus (go_simp; try exact rfl)); (focus (go_simp; try exact rfl)); (focus (go_simp; try exact rfl)); (focus (go_simp; try exact rfl)); (focus (go_simp; try exact rfl)); (focus (intro o; go_simp)); intro c_w110_0_0 c_w110_0_1 c_w110_0_2 c_w110_0_3 c_w110_0_4 c_w110_0_5 fz_w110_0 hl_w110_0; (with_reducible apply cel6 (b := w106.heap.size) hb_w110); (focus ((try simp) <;> omega)); (focus omega); (focus (go_simp; try exact rfl)); (focus (go_simp; try exact rfl)); (focus (go_simp; try exact rfl)); (focus (go_simp; try exact rfl)); (focus (go_simp; try exact rfl)); (focus (go_simp; try exact rfl)); (focus (intro o; go_simp)); intro c_w110_1_0 c_w110_1_1 c_w110_1_2 c_w110_1_3 c_w110_1_4 c_w110_1_5 fz_w110_1 hl_w110_1; (with_reducible apply cel6 (b := g_r7_12) hb_w110); (focus ((try simp) <;> omega)); (focus omega); (focus (go_simp; try exact rfl)); (focus (go_simp; try exact rfl)); (focus (go_simp; try exact rfl)); (focus (go_simp; try exact rfl)); (focus (go_simp; try exact rfl)); (focus (go_simp; try exact rfl)); (focus (intro o; go_simp)); intro c_w110_2_0 c_w110_2_1 c_w110_2_2 c_w110_2_3 c_w110_2_4 c_w110_2_5 fz_w110_2 hl_w110_2); refine wp_q (fun Q_ HQ_ => ?_); refine wp_region_floatQ w110.heap.size 11 [11] (Nat.le_refl _) (fun _ => True) trivial Cl.tt (by kernel_rfl) (by kernel_rfl) ?_
  replace H106 := Lib.hid (RAt.below (v := .agg #[.bool s106x, .slice A106x n106x c106x, .bool s106y, .slice A106y n106y c106y, .bool s106d, .slice A106d n106d c106d]) (x := a1) (y := a2) (d := a3) (by ((repeat (first | (with_reducible exact H106.out) | (with_reducible refine RAt.al ?_ _) | (with_reducible apply RAt.st1))) <;> (first | (with_reducible assumption) | (intro _ e; cases e; done) | (go_simp; first | done | exact rfl)))) hb_w110)
  replace H108 := Lib.hid (RAt.below (v := .agg #[.bool s108x, .slice A108x n108x c108x, .bool s108y, .slice A108y n108y c108y, .bool s108d, .slice A108d n108d c108d]) (x := (-a1)) (y := a2) (d := a3) (by ((repeat (first | (with_reducible exact H108.out) | (with_reducible refine RAt.al ?_ _) | (with_reducible apply RAt.st1))) <;> (first | (with_reducible assumption) | (intro _ e; cases e; done) | (go_simp; first | done | exact rfl)))) hb_w110)
  have HB110 := Lib.hid (show Below w.heap.size w w110 by have hB := HB109.out; ((with_reducible (repeat (first | exact bR _ _ | refine bS ?_ ?_ _ | refine bA ?_ ?_ _ | refine bD ?_ | refine bT ?_ (by assumption) ?_ | refine bO (by assumption) ?_ ?_))) <;> (first | omega | (simp; done) | (simp <;> omega))))
  have hz110 : w.heap.size + 1 ≤ w110.heap.size := by omega
  clear hb_w110
  clear c_w109_r7_12_0 c_w109_r7_12_1 c_w109_r7_12_2 c_w109_r7_12_3 c_w109_r7_12_4 c_w109_r7_12_5 fz_w109_r7_12 c_w109_0_0 c_w109_0_1 c_w109_0_2 c_w109_0_3 c_w109_0_4 c_w109_0_5 fz_w109_0 hl_w109_0 c_w109_1_0 c_w109_1_1 c_w109_1_2 c_w109_1_3 c_w109_1_4 c_w109_1_5 fz_w109_1 hl_w109_1
  refine wpQI_start [0, 1, 2, 3, 4, 5] ?_; (iterate 6 (first | (refine wpQI_off (by with_reducible (refine List.getElem?_toArray.trans ?_; (repeat (first | exact List.getElem?_cons_zero | refine List.getElem?_cons_succ.trans ?_)))) (by kernel_rfl) (by exact rfl) (fun K hK => ?_); go_simp; refine hK _ ?_; clear hK K) | ((first | apply wpQI_step (by with_reducible (refine List.getElem?_toArray.trans ?_; (repeat (first | exact List.getElem?_cons_zero | refine List.getElem?_cons_succ.trans ?_)))) (by kernel_rfl) (by exact rfl) | apply wpQI_on (by with_reducible (refine List.getElem?_toArray.trans ?_; (repeat (first | exact List.getElem?_cons_zero | refine List.getElem?_cons_succ.trans ?_)))) (by kernel_rfl) (by exact rfl)); (focus (intro W' hS; have hcS := hS.cells.1; have hfS := hS.cells.2; go_simp; (first | done | exact rfl | exact ⟨rfl, Below.refl _ _⟩ | (go_simp; first | done | exact rfl | exact ⟨rfl, Below.refl _ _⟩)))); intro K hK; go_simp; (try go_bits); refine hK _ ?_; clear hK K))); refine wpQI_nil ?_
  refine wpQI_start [7, 8] ?_; (iterate 2 (first | (refine wpQI_off (by with_reducible (refine List.getElem?_toArray.trans ?_; (repeat (first | exact List.getElem?_cons_zero | refine List.getElem?_cons_succ.trans ?_)))) (by kernel_rfl) (by exact rfl) (fun K hK => ?_); go_simp; refine hK _ ?_; clear hK K) | ((first | apply wpQI_step (by with_reducible (refine List.getElem?_toArray.trans ?_; (repeat (first | exact List.getElem?_cons_zero | refine List.getElem?_cons_succ.trans ?_)))) (by kernel_rfl) (by exact rfl) | apply wpQI_on (by with_reducible (refine List.getElem?_toArray.trans ?_; (repeat (first | exact List.getElem?_cons_zero | refine List.getElem?_cons_succ.trans ?_)))) (by kernel_rfl) (by exact rfl)); (focus (intro W' hS; have hcS := hS.cells.1; have hfS := hS.cells.2; go_simp; (first | done | exact rfl | exact ⟨rfl, Below.refl _ _⟩ | (go_simp; first | done | exact rfl | exact ⟨rfl, Below.refl _ _⟩)))); intro K hK; go_simp; (try go_bits); refine hK _ ?_; clear hK K))); refine wpQI_nil ?_
  refine wpQI_start [6] ?_; (iterate 1 (first | (refine wpQI_off (by with_reducible (refine List.getElem?_toArray.trans ?_; (repeat (first | exact List.getElem?_cons_zero | refine List.getElem?_cons_succ.trans ?_)))) (by kernel_rfl) (by exact rfl) (fun K hK => ?_); go_simp; refine hK _ ?_; clear hK K) | ((first | apply wpQI_step (by with_reducible (refine List.getElem?_toArray.trans ?_; (repeat (first | exact List.getElem?_cons_zero | refine List.getElem?_cons_succ.trans ?_)))) (by kernel_rfl) (by exact rfl) | apply wpQI_on (by with_reducible (refine List.getElem?_toArray.trans ?_; (repeat (first | exact List.getElem?_cons_zero | refine List.getElem?_cons_succ.trans ?_)))) (by kernel_rfl) (by exact rfl)); (focus (intro W' hS; have hcS := hS.cells.1; have hfS := hS.cells.2; go_simp; (first | done | exact rfl | exact ⟨rfl, Below.refl _ _⟩ | (go_at_call 52; exact (K11.out _).mono (fun _ _ h => ⟨h.1, h.2⟩)) | (go_simp; first | done | exact rfl | exact ⟨rfl, Below.refl _ _⟩)))); intro K hK; go_simp; (try go_bits); refine hK _ ?_; clear hK K))); refine wpQI_nil ?_
  apply wpQ_call (i := 9) (by with_reducible (refine List.getElem?_toArray.trans ?_; (repeat (first | exact List.getElem?_cons_zero | refine List.getElem?_cons_succ.trans ?_)))) (by kernel_rfl) (by exact rfl); intro W hF hS; have hcS := hS.1.cells.1; have hfS := hS.1.cells.2; go_simp; (go_at_call 31; refine (K12.out _).mono ?_; rintro e w111 ⟨hb_w111, v111, rfl, hv111⟩; refine XPost.mk _ (fun W => RAt W v111 (a1) (a2) (a3)) hb_w111 (hv111) (RAt.cl _ _ _ _) ?_); clear hb_w111 hcS hfS hS hF
  intro K hK; go_simp; (try go_bits); refine hK _ ?_; clear hK K
  obtain ⟨s111x, A111x, n111x, c111x, s111y, A111y, n111y, c111y, s111d, A111d, n111d, c111d, rfl⟩ := RAt.val hv111
  clear hv111
  apply wpQ_fresh (i := 10) LInv.std (by with_reducible (refine List.getElem?_toArray.trans ?_; (repeat (first | exact List.getElem?_cons_zero | refine List.getElem?_cons_succ.trans ?_)))) (by kernel_rfl) (fun g => Value.pointer (some ⟨g, 0, none⟩)) (by exact rfl); (focus (intro W; go_simp; first | done | exact rfl | exact ⟨rfl, rfl⟩))
  intro g_r8_10 hN_r8_10 hG_r8_10 K hK
  go_simp; refine hK _ ?_; clear hK K
  have hne : w.heap.size ≠ g_r8_10 := by have := hN_r8_10; omega
  have hne := Ne.symm hne
  have hne : w106.heap.size ≠ g_r8_10 := by have := hN_r8_10; omega
  have hne := Ne.symm hne
  have hne : g_r7_12 ≠ g_r8_10 := by have := hN_r8_10; omega
  have hne := Ne.symm hne
  refine wpQ_done (by kernel_rfl) ?_
  intro w112 hF_w112 hSG
  have hz_w112 := hSG.1.1
  have hb_w112 := hSG.1.2
  have hB_r8_10 := (hSG.2 _ (List.mem_cons_self ..)).2; simp only at hB_r8_10; have hl_r8_10 := (hSG.size (List.mem_cons_self ..)); simp only at hl_r8_10
  have c_w112_r8_10_0 := cell_of_row w112 g_r8_10 0 _ _ _ hB_r8_10; simp only [List.getElem?_toArray, List.getElem?_cons_zero] at c_w112_r8_10_0
  have c_w112_r8_10_1 := cell_of_row w112 g_r8_10 1 _ _ _ hB_r8_10; simp only [List.getElem?_toArray, List.getElem?_cons_zero, List.getElem?_cons_succ] at c_w112_r8_10_1
  have c_w112_r8_10_2 := cell_of_row w112 g_r8_10 2 _ _ _ hB_r8_10; simp only [List.getElem?_toArray, List.getElem?_cons_zero, List.getElem?_cons_succ] at c_w112_r8_10_2
  have c_w112_r8_10_3 := cell_of_row w112 g_r8_10 3 _ _ _ hB_r8_10; simp only [List.getElem?_toArray, List.getElem?_cons_zero, List.getElem?_cons_succ] at c_w112_r8_10_3
  have c_w112_r8_10_4 := cell_of_row w112 g_r8_10 4 _ _ _ hB_r8_10; simp only [List.getElem?_toArray, List.getElem?_cons_zero, List.getElem?_cons_succ] at c_w112_r8_10_4
  have c_w112_r8_10_5 := cell_of_row w112 g_r8_10 5 _ _ _ hB_r8_10; simp only [List.getElem?_toArray, List.getElem?_cons_zero, List.getElem?_cons_succ] at c_w112_r8_10_5
  have fz_w112_r8_10 : (∀ o, w112.frozen? ⟨g_r8_10, o, none⟩ = false) := (fun o => frozen_of_row w112 g_r8_10 o _ _ hB_r8_10); have HH_r8_10 := Lib.hid hB_r8_10; clear hB_r8_10
  clear hSG
  (with_reducible apply cel6 (b := w.heap.size) hb_w112); (focus ((try simp) <;> omega)); (focus omega); (focus (go_simp; try exact rfl)); (focus (go_simp; try exact rfl)); (focus (go_simp; try exact rfl)); (focus (go_simp; try exact rfl)); (focus (go_simp; try exact rfl)); (focus (go_simp; try exact rfl)); (focus (intro o; go_simp)); intro c_w112_0_0 c_w112_0_1 c_w112_0_2 c_w112_0_3 c_w112_0_4 c_w112_0_5 fz_w112_0 hl_w112_0; (with_reducible apply cel6 (b := w106.heap.size) hb_w112); (focus ((try simp) <;> omega)); (focus omega); (focus (go_simp; try exact rfl)); (focus (go_simp; try exact rfl)); (focus (go_simp; try exact rfl)); (focus (go_simp; try exact rfl)); (focus (go_simp; try exact rfl)); (focus (go_simp; try exact rfl)); (focus (intro o; go_simp)); intro c_w112_1_0 c_w112_1_1 c_w112_1_2 c_w112_1_3 c_w112_1_4 c_w112_1_5 fz_w112_1 hl_w112_1; (with_reducible apply cel6 (b := g_r7_12) hb_w112); (focus ((try simp) <;> omega)); (focus omega); (focus (go_simp; try exact rfl)); (focus (go_simp; try exact rfl)); (focus (go_simp; try exact rfl)); (focus (go_simp; try exact rfl)); (focus (go_simp; try exact rfl)); (focus (go_simp; try exact rfl)); (focus (intro o; go_simp)); intro c_w112_2_0 c_w112_2_1 c_w112_2_2 c_w112_2_3 c_w112_2_4 c_w112_2_5 fz_w112_2 hl_w112_2
  (try simp only [List.filterMap_cons, List.filterMap_nil, List.getElem?_cons_succ, List.getElem?_cons_zero])
  replace H106 := Lib.hid (H106.out.below hb_w112)
  replace H108 := Lib.hid (H108.out.below hb_w112)
  have H111 := Lib.hid (show RAt w112 (.agg #[.bool s111x, .slice A111x n111x c111x, .bool s111y, .slice A111y n111y c111y, .bool s111d, .slice A111d n111d c111d]) (a1) (a2) (a3) from hF_w112)
  have HB112 := Lib.hid (HB110.out.trans (hb_w112.mono (by have := HB110.out.size; omega)))
  have hz112 : w.heap.size + 1 ≤ w112.heap.size := by omega
  have hn_r8_10 : w.heap.size + 1 ≤ g_r8_10 := by have := hN_r8_10; omega
  clear hF_w112 hb_w112 HH_r8_10 hG_r8_10 hN_r8_10
  clear c_w110_0_0 c_w110_0_1 c_w110_0_2 c_w110_0_3 c_w110_0_4 c_w110_0_5 fz_w110_0 hl_w110_0 c_w110_1_0 c_w110_1_1 c_w110_1_2 c_w110_1_3 c_w110_1_4 c_w110_1_5 fz_w110_1 hl_w110_1 c_w110_2_0 c_w110_2_1 c_w110_2_2 c_w110_2_3 c_w110_2_4 c_w110_2_5 fz_w110_2 hl_w110_2
  go_wp2_with fail
  refine HQ_.out _ _ _ ?_
  clear HQ_ Q_
  go_wp2_with fail
  -- own blocks: w.heap.size:6, w106.heap.size:6, g_r7_12:6, g_r8_10:6
  (go_at_call 40; refine (K13.out _).mono ?_; rintro e w113 ⟨hb_w113, u113, v113, rfl, hu113, hv113⟩; have hz_w113 := hb_w113.size; (try simp at hz_w113); (with_reducible apply cel6 (b := w.heap.size) hb_w113); (focus ((try simp) <;> omega)); (focus omega); (focus (go_simp; try exact rfl)); (focus (go_simp; try exact rfl)); (focus (go_simp; try exact rfl)); (focus (go_simp; try exact rfl)); (focus (go_simp; try exact rfl)); (focus (go_simp; try exact rfl)); (focus (intro o; go_simp)); intro c_w113_0_0 c_w113_0_1 c_w113_0_2 c_w113_0_3 c_w113_0_4 c_w113_0_5 fz_w113_0 hl_w113_0; (with_reducible apply cel6 (b := w106.heap.size) hb_w113); (focus ((try simp) <;> omega)); (focus omega); (focus (go_simp; try exact rfl)); (focus (go_simp; try exact rfl)); (focus (go_simp; try exact rfl)); (focus (go_simp; try exact rfl)); (focus (go_simp; try exact rfl)); (focus (go_simp; try exact rfl)); (focus (intro o; go_simp)); intro c_w113_1_0 c_w113_1_1 c_w113_1_2 c_w113_1_3 c_w113_1_4 c_w113_1_5 fz_w113_1 hl_w113_1; (with_reducible apply cel6 (b := g_r7_12) hb_w113); (focus ((try simp) <;> omega)); (focus omega); (focus (go_simp; try exact rfl)); (focus (go_simp; try exact rfl)); (focus (go_simp; try exact rfl)); (focus (go_simp; try exact rfl)); (focus (go_simp; try exact rfl)); (focus (go_simp; try exact rfl)); (focus (intro o; go_simp)); intro c_w113_2_0 c_w113_2_1 c_w113_2_2 c_w113_2_3 c_w113_2_4 c_w113_2_5 fz_w113_2 hl_w113_2; (with_reducible apply cel6 (b := g_r8_10) hb_w113); (focus ((try simp) <;> omega)); (focus omega); (focus (go_simp; try exact rfl)); (focus (go_simp; try exact rfl)); (focus (go_simp; try exact rfl)); (focus (go_simp; try exact rfl)); (focus (go_simp; try exact rfl)); (focus (go_simp; try exact rfl)); (focus (intro o; go_simp)); intro c_w113_3_0 c_w113_3_1 c_w113_3_2 c_w113_3_3 c_w113_3_4 c_w113_3_5 fz_w113_3 hl_w113_3)
  obtain ⟨s113ux, A113ux, n113ux, c113ux, s113uy, A113uy, n113uy, c113uy, s113ud, A113ud, n113ud, c113ud, rfl⟩ := RAt.val hu113
  obtain ⟨s113x, A113x, n113x, c113x, s113y, A113y, n113y, c113y, s113d, A113d, n113d, c113d, rfl⟩ := RAt.val hv113
  replace H106 := Lib.hid (RAt.below (v := .agg #[.bool s106x, .slice A106x n106x c106x, .bool s106y, .slice A106y n106y c106y, .bool s106d, .slice A106d n106d c106d]) (x := a1) (y := a2) (d := a3) (by ((repeat (first | (with_reducible exact H106.out) | (with_reducible refine RAt.al ?_ _) | (with_reducible apply RAt.st1))) <;> (first | (with_reducible assumption) | (intro _ e; cases e; done) | (go_simp; first | done | exact rfl)))) hb_w113)
  replace H108 := Lib.hid (RAt.below (v := .agg #[.bool s108x, .slice A108x n108x c108x, .bool s108y, .slice A108y n108y c108y, .bool s108d, .slice A108d n108d c108d]) (x := (-a1)) (y := a2) (d := a3) (by ((repeat (first | (with_reducible exact H108.out) | (with_reducible refine RAt.al ?_ _) | (with_reducible apply RAt.st1))) <;> (first | (with_reducible assumption) | (intro _ e; cases e; done) | (go_simp; first | done | exact rfl)))) hb_w113)
  replace H111 := Lib.hid (RAt.below (v := .agg #[.bool s111x, .slice A111x n111x c111x, .bool s111y, .slice A111y n111y c111y, .bool s111d, .slice A111d n111d c111d]) (x := a1) (y := a2) (d := a3) (by ((repeat (first | (with_reducible exact H111.out) | (with_reducible refine RAt.al ?_ _) | (with_reducible apply RAt.st1))) <;> (first | (with_reducible assumption) | (intro _ e; cases e; done) | (go_simp; first | done | exact rfl)))) hb_w113)
  have HB113 := Lib.hid (show Below w.heap.size w w113 by have hB := HB112.out; ((with_reducible (repeat (first | exact bR _ _ | refine bS ?_ ?_ _ | refine bA ?_ ?_ _ | refine bD ?_ | refine bT ?_ (by assumption) ?_ | refine bO (by assumption) ?_ ?_))) <;> (first | omega | (simp; done) | (simp <;> omega))))
  have hz113 : w.heap.size + 1 ≤ w113.heap.size := by omega
  clear hb_w113
  clear c_w112_r8_10_0 c_w112_r8_10_1 c_w112_r8_10_2 c_w112_r8_10_3 c_w112_r8_10_4 c_w112_r8_10_5 fz_w112_r8_10 c_w112_0_0 c_w112_0_1 c_w112_0_2 c_w112_0_3 c_w112_0_4 c_w112_0_5 fz_w112_0 hl_w112_0 c_w112_1_0 c_w112_1_1 c_w112_1_2 c_w112_1_3 c_w112_1_4 c_w112_1_5 fz_w112_1 hl_w112_1 c_w112_2_0 c_w112_2_1 c_w112_2_2 c_w112_2_3 c_w112_2_4 c_w112_2_5 fz_w112_2 hl_w112_2
  have H113u := Lib.hid (show RAt w113 (.agg #[.bool s113ux, .slice A113ux n113ux c113ux, .bool s113uy, .slice A113uy n113uy c113uy, .bool s113ud, .slice A113ud n113ud c113ud]) (p1) (p2) (p3) from hu113)
  clear hu113
  have H113 := Lib.hid (show RAt w113 (.agg #[.bool s113x, .slice A113x n113x c113x, .bool s113y, .slice A113y n113y c113y, .bool s113d, .slice A113d n113d c113d]) (q1) (q2) (q3) from hv113)
  clear hv113
  go_wp2_with fail
  -- own blocks: w.heap.size:6, w106.heap.size:6, g_r7_12:6, g_r8_10:6, w113.heap.size:6, w113.heap.size + 1:6
  (refine pin_wp (N := _) (Nat.le_refl _) (fun w114 hb_w114 hz_w114 => ?_); (try simp at hz_w114); (with_reducible apply cel6 (b := w.heap.size) hb_w114); (focus ((try simp) <;> omega)); (focus omega); (focus (go_simp; try exact rfl)); (focus (go_simp; try exact rfl)); (focus (go_simp; try exact rfl)); (focus (go_simp; try exact rfl)); (focus (go_simp; try exact rfl)); (focus (go_simp; try exact rfl)); (focus (intro o; go_simp)); intro c_w114_0_0 c_w114_0_1 c_w114_0_2 c_w114_0_3 c_w114_0_4 c_w114_0_5 fz_w114_0 hl_w114_0; (with_reducible apply cel6 (b := w106.heap.size) hb_w114); (focus ((try simp) <;> omega)); (focus omega); (focus (go_simp; try exact rfl)); (focus (go_simp; try exact rfl)); (focus (go_simp; try exact rfl)); (focus (go_simp; try exact rfl)); (focus (go_simp; try exact rfl)); (focus (go_simp; try exact rfl)); (focus (intro o; go_simp)); intro c_w114_1_0 c_w114_1_1 c_w114_1_2 c_w114_1_3 c_w114_1_4 c_w114_1_5 fz_w114_1 hl_w114_1; (with_reducible apply cel6 (b := g_r7_12) hb_w114); (focus ((try simp) <;> omega)); (focus omega); (focus (go_simp; try exact rfl)); (focus (go_simp; try exact rfl)); (focus (go_simp; try exact rfl)); (focus (go_simp; try exact rfl)); (focus (go_simp; try exact rfl)); (focus (go_simp; try exact rfl)); (focus (intro o; go_simp)); intro c_w114_2_0 c_w114_2_1 c_w114_2_2 c_w114_2_3 c_w114_2_4 c_w114_2_5 fz_w114_2 hl_w114_2; (with_reducible apply cel6 (b := g_r8_10) hb_w114); (focus ((try simp) <;> omega)); (focus omega); (focus (go_simp; try exact rfl)); (focus (go_simp; try exact rfl)); (focus (go_simp; try exact rfl)); (focus (go_simp; try exact rfl)); (focus (go_simp; try exact rfl)); (focus (go_simp; try exact rfl)); (focus (intro o; go_simp)); intro c_w114_3_0 c_w114_3_1 c_w114_3_2 c_w114_3_3 c_w114_3_4 c_w114_3_5 fz_w114_3 hl_w114_3; (with_reducible apply cel6 (b := w113.heap.size) hb_w114); (focus ((try simp) <;> omega)); (focus omega); (focus (go_simp; try exact rfl)); (focus (go_simp; try exact rfl)); (focus (go_simp; try exact rfl)); (focus (go_simp; try exact rfl)); (focus (go_simp; try exact rfl)); (focus (go_simp; try exact rfl)); (focus (intro o; go_simp)); intro c_w114_4_0 c_w114_4_1 c_w114_4_2 c_w114_4_3 c_w114_4_4 c_w114_4_5 fz_w114_4 hl_w114_4; (with_reducible apply cel6 (b := w113.heap.size + 1) hb_w114); (focus ((try simp) <;> omega)); (focus omega); (focus (go_simp; try exact rfl)); (focus (go_simp; try exact rfl)); (focus (go_simp; try exact rfl)); (focus (go_simp; try exact rfl)); (focus (go_simp; try exact rfl)); (focus (go_simp; try exact rfl)); (focus (intro o; go_simp)); intro c_w114_5_0 c_w114_5_1 c_w114_5_2 c_w114_5_3 c_w114_5_4 c_w114_5_5 fz_w114_5 hl_w114_5); refine wp_q (fun Q_ HQ_ => ?_); refine wp_region_floatQ w114.heap.size 15 [15] (Nat.le_refl _) (fun _ => True) trivial Cl.tt (by kernel_rfl) (by kernel_rfl) ?_
  replace H106 := Lib.hid (RAt.below (v := .agg #[.bool s106x, .slice A106x n106x c106x, .bool s106y, .slice A106y n106y c106y, .bool s106d, .slice A106d n106d c106d]) (x := a1) (y := a2) (d := a3) (by ((repeat (first | (with_reducible exact H106.out) | (with_reducible refine RAt.al ?_ _) | (with_reducible apply RAt.st1))) <;> (first | (with_reducible assumption) | (intro _ e; cases e; done) | (go_simp; first | done | exact rfl)))) hb_w114)
  replace H108 := Lib.hid (RAt.below (v := .agg #[.bool s108x, .slice A108x n108x c108x, .bool s108y, .slice A108y n108y c108y, .bool s108d, .slice A108d n108d c108d]) (x := (-a1)) (y := a2) (d := a3) (by ((repeat (first | (with_reducible exact H108.out) | (with_reducible refine RAt.al ?_ _) | (with_reducible apply RAt.st1))) <;> (first | (with_reducible assumption) | (intro _ e; cases e; done) | (go_simp; first | done | exact rfl)))) hb_w114)
  replace H111 := Lib.hid (RAt.below (v := .agg #[.bool s111x, .slice A111x n111x c111x, .bool s111y, .slice A111y n111y c111y, .bool s111d, .slice A111d n111d c111d]) (x := a1) (y := a2) (d := a3) (by ((repeat (first | (with_reducible exact H111.out) | (with_reducible refine RAt.al ?_ _) | (with_reducible apply RAt.st1))) <;> (first | (with_reducible assumption) | (intro _ e; cases e; done) | (go_simp; first | done | exact rfl)))) hb_w114)
  replace H113u := Lib.hid (RAt.below (v := .agg #[.bool s113ux, .slice A113ux n113ux c113ux, .bool s113uy, .slice A113uy n113uy c113uy, .bool s113ud, .slice A113ud n113ud c113ud]) (x := p1) (y := p2) (d := p3) (by ((repeat (first | (with_reducible exact H113u.out) | (with_reducible refine RAt.al ?_ _) | (with_reducible apply RAt.st1))) <;> (first | (with_reducible assumption) | (intro _ e; cases e; done) | (go_simp; first | done | exact rfl)))) hb_w114)
  replace H113 := Lib.hid (RAt.below (v := .agg #[.bool s113x, .slice A113x n113x c113x, .bool s113y, .slice A113y n113y c113y, .bool s113d, .slice A113d n113d c113d]) (x := q1) (y := q2) (d := q3) (by ((repeat (first | (with_reducible exact H113.out) | (with_reducible refine RAt.al ?_ _) | (with_reducible apply RAt.st1))) <;> (first | (with_reducible assumption) | (intro _ e; cases e; done) | (go_simp; first | done | exact rfl)))) hb_w114)
  have HB114 := Lib.hid (show Below w.heap.size w w114 by have hB := HB113.out; ((with_reducible (repeat (first | exact bR _ _ | refine bS ?_ ?_ _ | refine bA ?_ ?_ _ | refine bD ?_ | refine bT ?_ (by assumption) ?_ | refine bO (by assumption) ?_ ?_))) <;> (first | omega | (simp; done) | (simp <;> omega))))
  have hz114 : w.heap.size + 1 ≤ w114.heap.size := by omega
  clear hb_w114
  clear c_w113_0_0 c_w113_0_1 c_w113_0_2 c_w113_0_3 c_w113_0_4 c_w113_0_5 fz_w113_0 hl_w113_0 c_w113_1_0 c_w113_1_1 c_w113_1_2 c_w113_1_3 c_w113_1_4 c_w113_1_5 fz_w113_1 hl_w113_1 c_w113_2_0 c_w113_2_1 c_w113_2_2 c_w113_2_3 c_w113_2_4 c_w113_2_5 fz_w113_2 hl_w113_2 c_w113_3_0 c_w113_3_1 c_w113_3_2 c_w113_3_3 c_w113_3_4 c_w113_3_5 fz_w113_3 hl_w113_3
  refine wpQI_start [0, 1, 2, 3, 4, 5] ?_; (iterate 6 (first | (refine wpQI_off (by with_reducible (refine List.getElem?_toArray.trans ?_; (repeat (first | exact List.getElem?_cons_zero | refine List.getElem?_cons_succ.trans ?_)))) (by kernel_rfl) (by exact rfl) (fun K hK => ?_); go_simp; refine hK _ ?_; clear hK K) | ((first | apply wpQI_step (by with_reducible (refine List.getElem?_toArray.trans ?_; (repeat (first | exact List.getElem?_cons_zero | refine List.getElem?_cons_succ.trans ?_)))) (by kernel_rfl) (by exact rfl) | apply wpQI_on (by with_reducible (refine List.getElem?_toArray.trans ?_; (repeat (first | exact List.getElem?_cons_zero | refine List.getElem?_cons_succ.trans ?_)))) (by kernel_rfl) (by exact rfl)); (focus (intro W' hS; have hcS := hS.cells.1; have hfS := hS.cells.2; go_simp; (first | done | exact rfl | exact ⟨rfl, Below.refl _ _⟩ | (go_simp; first | done | exact rfl | exact ⟨rfl, Below.refl _ _⟩)))); intro K hK; go_simp; (try go_bits); refine hK _ ?_; clear hK K))); refine wpQI_nil ?_
  refine wpQI_start [7] ?_; (iterate 1 (first | (refine wpQI_off (by with_reducible (refine List.getElem?_toArray.trans ?_; (repeat (first | exact List.getElem?_cons_zero | refine List.getElem?_cons_succ.trans ?_)))) (by kernel_rfl) (by exact rfl) (fun K hK => ?_); go_simp; refine hK _ ?_; clear hK K) | ((first | apply wpQI_step (by with_reducible (refine List.getElem?_toArray.trans ?_; (repeat (first | exact List.getElem?_cons_zero | refine List.getElem?_cons_succ.trans ?_)))) (by kernel_rfl) (by exact rfl) | apply wpQI_on (by with_reducible (refine List.getElem?_toArray.trans ?_; (repeat (first | exact List.getElem?_cons_zero | refine List.getElem?_cons_succ.trans ?_)))) (by kernel_rfl) (by exact rfl)); (focus (intro W' hS; have hcS := hS.cells.1; have hfS := hS.cells.2; go_simp; (first | done | exact rfl | exact ⟨rfl, Below.refl _ _⟩ | (go_simp; first | done | exact rfl | exact ⟨rfl, Below.refl _ _⟩)))); intro K hK; go_simp; (try go_bits); refine hK _ ?_; clear hK K))); refine wpQI_nil ?_
  refine wpQI_start [6] ?_; (iterate 1 (first | (refine wpQI_off (by with_reducible (refine List.getElem?_toArray.trans ?_; (repeat (first | exact List.getElem?_cons_zero | refine List.getElem?_cons_succ.trans ?_)))) (by kernel_rfl) (by exact rfl) (fun K hK => ?_); go_simp; refine hK _ ?_; clear hK K) | ((first | apply wpQI_step (by with_reducible (refine List.getElem?_toArray.trans ?_; (repeat (first | exact List.getElem?_cons_zero | refine List.getElem?_cons_succ.trans ?_)))) (by kernel_rfl) (by exact rfl) | apply wpQI_on (by with_reducible (refine List.getElem?_toArray.trans ?_; (repeat (first | exact List.getElem?_cons_zero | refine List.getElem?_cons_succ.trans ?_)))) (by kernel_rfl) (by exact rfl)); (focus (intro W' hS; have hcS := hS.cells.1; have hfS := hS.cells.2; go_simp; (first | done | exact rfl | exact ⟨rfl, Below.refl _ _⟩ | (go_at_call 52; exact (K14.out _).mono (fun _ _ h => ⟨h.1, h.2⟩)) | (go_simp; first | done | exact rfl | exact ⟨rfl, Below.refl _ _⟩)))); intro K hK; go_simp; (try go_bits); refine hK _ ?_; clear hK K))); refine wpQI_nil ?_
  apply wpQ_call (i := 8) (by with_reducible (refine List.getElem?_toArray.trans ?_; (repeat (first | exact List.getElem?_cons_zero | refine List.getElem?_cons_succ.trans ?_)))) (by kernel_rfl) (by exact rfl); intro W hF hS; have hcS := hS.1.cells.1; have hfS := hS.1.cells.2; go_simp; (go_at_call 40; refine (K15.out _).mono ?_; rintro e w115 ⟨hb_w115, u115, v115, rfl, hu115, hv115⟩; refine XPost.mk _ (fun W => RAt W u115 (q1) (q2) (q3) ∧ RAt W v115 (p1) (p2) (p3)) hb_w115 (⟨hu115, hv115⟩) (Cl.and (RAt.cl _ _ _ _) (RAt.cl _ _ _ _)) ?_); clear hb_w115 hcS hfS hS hF
  intro K hK; go_simp; (try go_bits); refine hK _ ?_; clear hK K
  obtain ⟨s115ux, A115ux, n115ux, c115ux, s115uy, A115uy, n115uy, c115uy, s115ud, A115ud, n115ud, c115ud, rfl⟩ := RAt.val hu115
  clear hu115
  obtain ⟨s115x, A115x, n115x, c115x, s115y, A115y, n115y, c115y, s115d, A115d, n115d, c115d, rfl⟩ := RAt.val hv115
  clear hv115
  refine wpQI_start [9, 10, 11] ?_; (iterate 3 (first | (refine wpQI_off (by with_reducible (refine List.getElem?_toArray.trans ?_; (repeat (first | exact List.getElem?_cons_zero | refine List.getElem?_cons_succ.trans ?_)))) (by kernel_rfl) (by exact rfl) (fun K hK => ?_); go_simp; refine hK _ ?_; clear hK K) | ((first | apply wpQI_step (by with_reducible (refine List.getElem?_toArray.trans ?_; (repeat (first | exact List.getElem?_cons_zero | refine List.getElem?_cons_succ.trans ?_)))) (by kernel_rfl) (by exact rfl) | apply wpQI_on (by with_reducible (refine List.getElem?_toArray.trans ?_; (repeat (first | exact List.getElem?_cons_zero | refine List.getElem?_cons_succ.trans ?_)))) (by kernel_rfl) (by exact rfl)); (focus (intro W' hS; have hcS := hS.cells.1; have hfS := hS.cells.2; go_simp; (first | done | exact rfl | exact ⟨rfl, Below.refl _ _⟩ | (go_simp; first | done | exact rfl | exact ⟨rfl, Below.refl _ _⟩)))); intro K hK; go_simp; (try go_bits); refine hK _ ?_; clear hK K))); refine wpQI_nil ?_
  apply wpQ_fresh (i := 13) LInv.std (by with_reducible (refine List.getElem?_toArray.trans ?_; (repeat (first | exact List.getElem?_cons_zero | refine List.getElem?_cons_succ.trans ?_)))) (by kernel_rfl) (fun g => Value.pointer (some ⟨g, 0, none⟩)) (by exact rfl); (focus (intro W; go_simp; first | done | exact rfl | exact ⟨rfl, rfl⟩))
  intro g_r10_13 hN_r10_13 hG_r10_13 K hK
  go_simp; refine hK _ ?_; clear hK K
  apply wpQ_fresh (i := 12) LInv.std (by with_reducible (refine List.getElem?_toArray.trans ?_; (repeat (first | exact List.getElem?_cons_zero | refine List.getElem?_cons_succ.trans ?_)))) (by kernel_rfl) (fun g => Value.pointer (some ⟨g, 0, none⟩)) (by exact rfl); (focus (intro W; go_simp; first | done | exact rfl | exact ⟨rfl, rfl⟩))
  intro g_r10_12 hN_r10_12 hG_r10_12 K hK
  go_simp; refine hK _ ?_; clear hK K
  have hne_r10_13_r10_12 : g_r10_13 ≠ g_r10_12 := hG_r10_12 _ (List.mem_cons_self ..)
  have hne_r10_12_r10_13 : g_r10_12 ≠ g_r10_13 := Ne.symm hne_r10_13_r10_12
  have hne : w.heap.size ≠ g_r10_13 := by have := hN_r10_13; omega
  have hne := Ne.symm hne
  have hne : w.heap.size ≠ g_r10_12 := by have := hN_r10_12; omega
  have hne := Ne.symm hne
  have hne : w106.heap.size ≠ g_r10_13 := by have := hN_r10_13; omega
  have hne := Ne.symm hne
  have hne : w106.heap.size ≠ g_r10_12 := by have := hN_r10_12; omega
  have hne := Ne.symm hne
  have hne : g_r7_12 ≠ g_r10_13 := by have := hN_r10_13; omega
  have hne := Ne.symm hne
  have hne : g_r7_12 ≠ g_r10_12 := by have := hN_r10_12; omega
  have hne := Ne.symm hne
  have hne : g_r8_10 ≠ g_r10_13 := by have := hN_r10_13; omega
  have hne := Ne.symm hne
  have hne : g_r8_10 ≠ g_r10_12 := by have := hN_r10_12; omega
  have hne := Ne.symm hne
  have hne : w113.heap.size ≠ g_r10_13 := by have := hN_r10_13; omega
  have hne := Ne.symm hne
  have hne : w113.heap.size ≠ g_r10_12 := by have := hN_r10_12; omega
  have hne := Ne.symm hne
  have hne : w113.heap.size + 1 ≠ g_r10_13 := by have := hN_r10_13; omega
  have hne := Ne.symm hne
  have hne : w113.heap.size + 1 ≠ g_r10_12 := by have := hN_r10_12; omega
  have hne := Ne.symm hne
  apply wpQ_wild (i := 14) rfl (by kernel_rfl) (by kernel_rfl); intro W hF hS; have hcS := hS.1.cells.1; have hfS := hS.1.cells.2; have hb0 := (hS.2 _ (List.mem_cons_self ..)).2; simp only at hb0; have fz : (∀ o, W.frozen? ⟨g_r10_12, o, none⟩ = false) := (fun o => frozen_of_row W g_r10_12 o _ _ hb0); have cc0 := cell_of_row W g_r10_12 0 _ _ _ hb0; simp only [List.getElem?_toArray, List.getElem?_cons_zero] at cc0; have cc1 := cell_of_row W g_r10_12 1 _ _ _ hb0; simp only [List.getElem?_toArray, List.getElem?_cons_zero, List.getElem?_cons_succ] at cc1; have cc2 := cell_of_row W g_r10_12 2 _ _ _ hb0; simp only [List.getElem?_toArray, List.getElem?_cons_zero, List.getElem?_cons_succ] at cc2; have cc3 := cell_of_row W g_r10_12 3 _ _ _ hb0; simp only [List.getElem?_toArray, List.getElem?_cons_zero, List.getElem?_cons_succ] at cc3; have cc4 := cell_of_row W g_r10_12 4 _ _ _ hb0; simp only [List.getElem?_toArray, List.getElem?_cons_zero, List.getElem?_cons_succ] at cc4; have cc5 := cell_of_row W g_r10_12 5 _ _ _ hb0; simp only [List.getElem?_toArray, List.getElem?_cons_zero, List.getElem?_cons_succ] at cc5; go_simp
  have hP := ((((((hS.put hG_r10_12 0 (.bool s115ux)).put hG_r10_12 1 (.slice A115ux n115ux c115ux)).put hG_r10_12 2 (.bool s115uy)).put hG_r10_12 3 (.slice A115uy n115uy c115uy)).put hG_r10_12 4 (.bool s115ud)).put hG_r10_12 5 (.slice A115ud n115ud c115ud))
  simp only [List.setIfInBounds_toArray, List.set_cons_zero, List.set_cons_succ] at hP
  refine WPost.mk _ (fun W => RAt W (.agg #[.bool s115ux, .slice A115ux n115ux c115ux, .bool s115uy, .slice A115uy n115uy c115uy, .bool s115ud, .slice A115ud n115ud c115ud]) (q1) (q2) (q3) ∧ RAt W (.agg #[.bool s115x, .slice A115x n115x c115x, .bool s115y, .slice A115y n115y c115y, .bool s115d, .slice A115d n115d c115d]) (p1) (p2) (p3)) _ ⟨(by ((repeat (first | (with_reducible exact hF.1) | (with_reducible apply RAt.st1))) <;> (first | (with_reducible assumption) | (intro _ e; cases e; done) | (go_simp; first | done | exact rfl)))), (by ((repeat (first | (with_reducible exact hF.2) | (with_reducible apply RAt.st1))) <;> (first | (with_reducible assumption) | (intro _ e; cases e; done) | (go_simp; first | done | exact rfl))))⟩ (Cl.and (RAt.cl _ _ _ _) (RAt.cl _ _ _ _)) hP ?_
  clear hP fz hb0 cc0 cc1 cc2 cc3 cc4 cc5 hcS hfS hS hF
  intro K hK; go_simp; refine hK _ ?_; clear hK K
  refine wpQ_done (by kernel_rfl) ?_
  intro w116 hF_w116 hSG
  have hz_w116 := hSG.1.1
  have hb_w116 := hSG.1.2
  have hB_r10_12 := (hSG.2 _ (List.mem_cons_self ..)).2; simp only at hB_r10_12; have hl_r10_12 := (hSG.size (List.mem_cons_self ..)); simp only at hl_r10_12
  have c_w116_r10_12_0 := cell_of_row w116 g_r10_12 0 _ _ _ hB_r10_12; simp only [List.getElem?_toArray, List.getElem?_cons_zero] at c_w116_r10_12_0
  have c_w116_r10_12_1 := cell_of_row w116 g_r10_12 1 _ _ _ hB_r10_12; simp only [List.getElem?_toArray, List.getElem?_cons_zero, List.getElem?_cons_succ] at c_w116_r10_12_1
  have c_w116_r10_12_2 := cell_of_row w116 g_r10_12 2 _ _ _ hB_r10_12; simp only [List.getElem?_toArray, List.getElem?_cons_zero, List.getElem?_cons_succ] at c_w116_r10_12_2
  have c_w116_r10_12_3 := cell_of_row w116 g_r10_12 3 _ _ _ hB_r10_12; simp only [List.getElem?_toArray, List.getElem?_cons_zero, List.getElem?_cons_succ] at c_w116_r10_12_3
  have c_w116_r10_12_4 := cell_of_row w116 g_r10_12 4 _ _ _ hB_r10_12; simp only [List.getElem?_toArray, List.getElem?_cons_zero, List.getElem?_cons_succ] at c_w116_r10_12_4
  have c_w116_r10_12_5 := cell_of_row w116 g_r10_12 5 _ _ _ hB_r10_12; simp only [List.getElem?_toArray, List.getElem?_cons_zero, List.getElem?_cons_succ] at c_w116_r10_12_5
  have fz_w116_r10_12 : (∀ o, w116.frozen? ⟨g_r10_12, o, none⟩ = false) := (fun o => frozen_of_row w116 g_r10_12 o _ _ hB_r10_12); have HH_r10_12 := Lib.hid hB_r10_12; clear hB_r10_12
  have hB_r10_13 := (hSG.2 _ (List.mem_cons_of_mem _ (List.mem_cons_self ..))).2; simp only at hB_r10_13; have hl_r10_13 := (hSG.size (List.mem_cons_of_mem _ (List.mem_cons_self ..))); simp only at hl_r10_13
  have c_w116_r10_13_0 := cell_of_row w116 g_r10_13 0 _ _ _ hB_r10_13; simp only [List.getElem?_toArray, List.getElem?_cons_zero] at c_w116_r10_13_0
  have c_w116_r10_13_1 := cell_of_row w116 g_r10_13 1 _ _ _ hB_r10_13; simp only [List.getElem?_toArray, List.getElem?_cons_zero, List.getElem?_cons_succ] at c_w116_r10_13_1
  have c_w116_r10_13_2 := cell_of_row w116 g_r10_13 2 _ _ _ hB_r10_13; simp only [List.getElem?_toArray, List.getElem?_cons_zero, List.getElem?_cons_succ] at c_w116_r10_13_2
  have c_w116_r10_13_3 := cell_of_row w116 g_r10_13 3 _ _ _ hB_r10_13; simp only [List.getElem?_toArray, List.getElem?_cons_zero, List.getElem?_cons_succ] at c_w116_r10_13_3
  have c_w116_r10_13_4 := cell_of_row w116 g_r10_13 4 _ _ _ hB_r10_13; simp only [List.getElem?_toArray, List.getElem?_cons_zero, List.getElem?_cons_succ] at c_w116_r10_13_4
  have c_w116_r10_13_5 := cell_of_row w116 g_r10_13 5 _ _ _ hB_r10_13; simp only [List.getElem?_toArray, List.getElem?_cons_zero, List.getElem?_cons_succ] at c_w116_r10_13_5
  have fz_w116_r10_13 : (∀ o, w116.frozen? ⟨g_r10_13, o, none⟩ = false) := (fun o => frozen_of_row w116 g_r10_13 o _ _ hB_r10_13); have HH_r10_13 := Lib.hid hB_r10_13; clear hB_r10_13
  clear hSG
  (with_reducible apply cel6 (b := w.heap.size) hb_w116); (focus ((try simp) <;> omega)); (focus omega); (focus (go_simp; try exact rfl)); (focus (go_simp; try exact rfl)); (focus (go_simp; try exact rfl)); (focus (go_simp; try exact rfl)); (focus (go_simp; try exact rfl)); (focus (go_simp; try exact rfl)); (focus (intro o; go_simp)); intro c_w116_0_0 c_w116_0_1 c_w116_0_2 c_w116_0_3 c_w116_0_4 c_w116_0_5 fz_w116_0 hl_w116_0; (with_reducible apply cel6 (b := w106.heap.size) hb_w116); (focus ((try simp) <;> omega)); (focus omega); (focus (go_simp; try exact rfl)); (focus (go_simp; try exact rfl)); (focus (go_simp; try exact rfl)); (focus (go_simp; try exact rfl)); (focus (go_simp; try exact rfl)); (focus (go_simp; try exact rfl)); (focus (intro o; go_simp)); intro c_w116_1_0 c_w116_1_1 c_w116_1_2 c_w116_1_3 c_w116_1_4 c_w116_1_5 fz_w116_1 hl_w116_1; (with_reducible apply cel6 (b := g_r7_12) hb_w116); (focus ((try simp) <;> omega)); (focus omega); (focus (go_simp; try exact rfl)); (focus (go_simp; try exact rfl)); (focus (go_simp; try exact rfl)); (focus (go_simp; try exact rfl)); (focus (go_simp; try exact rfl)); (focus (go_simp; try exact rfl)); (focus (intro o; go_simp)); intro c_w116_2_0 c_w116_2_1 c_w116_2_2 c_w116_2_3 c_w116_2_4 c_w116_2_5 fz_w116_2 hl_w116_2; (with_reducible apply cel6 (b := g_r8_10) hb_w116); (focus ((try simp) <;> omega)); (focus omega); (focus (go_simp; try exact rfl)); (focus (go_simp; try exact rfl)); (focus (go_simp; try exact rfl)); (focus (go_simp; try exact rfl)); (focus (go_simp; try exact rfl)); (focus (go_simp; try exact rfl)); (focus (intro o; go_simp)); intro c_w116_3_0 c_w116_3_1 c_w116_3_2 c_w116_3_3 c_w116_3_4 c_w116_3_5 fz_w116_3 hl_w116_3; (with_reducible apply cel6 (b := w113.heap.size) hb_w116); (focus ((try simp) <;> omega)); (focus omega); (focus (go_simp; try exact rfl)); (focus (go_simp; try exact rfl)); (focus (go_simp; try exact rfl)); (focus (go_simp; try exact rfl)); (focus (go_simp; try exact rfl)); (focus (go_simp; try exact rfl)); (focus (intro o; go_simp)); intro c_w116_4_0 c_w116_4_1 c_w116_4_2 c_w116_4_3 c_w116_4_4 c_w116_4_5 fz_w116_4 hl_w116_4; (with_reducible apply cel6 (b := w113.heap.size + 1) hb_w116); (focus ((try simp) <;> omega)); (focus omega); (focus (go_simp; try exact rfl)); (focus (go_simp; try exact rfl)); (focus (go_simp; try exact rfl)); (focus (go_simp; try exact rfl)); (focus (go_simp; try exact rfl)); (focus (go_simp; try exact rfl)); (focus (intro o; go_simp)); intro c_w116_5_0 c_w116_5_1 c_w116_5_2 c_w116_5_3 c_w116_5_4 c_w116_5_5 fz_w116_5 hl_w116_5
  (try simp only [List.filterMap_cons, List.filterMap_nil, List.getElem?_cons_succ, List.getElem?_cons_zero])
  replace H106 := Lib.hid (H106.out.below hb_w116)
  replace H108 := Lib.hid (H108.out.below hb_w116)
  replace H111 := Lib.hid (H111.out.below hb_w116)
  replace H113u := Lib.hid (H113u.out.below hb_w116)
  replace H113 := Lib.hid (H113.out.below hb_w116)
  have H115u := Lib.hid (show RAt w116 (.agg #[.bool s115ux, .slice A115ux n115ux c115ux, .bool s115uy, .slice A115uy n115uy c115uy, .bool s115ud, .slice A115ud n115ud c115ud]) (q1) (q2) (q3) from hF_w116.1)
  have H115 := Lib.hid (show RAt w116 (.agg #[.bool s115x, .slice A115x n115x c115x, .bool s115y, .slice A115y n115y c115y, .bool s115d, .slice A115d n115d c115d]) (p1) (p2) (p3) from hF_w116.2)
  have HB116 := Lib.hid (HB114.out.trans (hb_w116.mono (by have := HB114.out.size; omega)))
  have hz116 : w.heap.size + 1 ≤ w116.heap.size := by omega
  have hn_r10_13 : w.heap.size + 1 ≤ g_r10_13 := by have := hN_r10_13; omega
  have hn_r10_12 : w.heap.size + 1 ≤ g_r10_12 := by have := hN_r10_12; omega
  clear hF_w116 hb_w116 HH_r10_13 hG_r10_13 hN_r10_13 HH_r10_12 hG_r10_12 hN_r10_12
  clear c_w114_0_0 c_w114_0_1 c_w114_0_2 c_w114_0_3 c_w114_0_4 c_w114_0_5 fz_w114_0 hl_w114_0 c_w114_1_0 c_w114_1_1 c_w114_1_2 c_w114_1_3 c_w114_1_4 c_w114_1_5 fz_w114_1 hl_w114_1 c_w114_2_0 c_w114_2_1 c_w114_2_2 c_w114_2_3 c_w114_2_4 c_w114_2_5 fz_w114_2 hl_w114_2 c_w114_3_0 c_w114_3_1 c_w114_3_2 c_w114_3_3 c_w114_3_4 c_w114_3_5 fz_w114_3 hl_w114_3 c_w114_4_0 c_w114_4_1 c_w114_4_2 c_w114_4_3 c_w114_4_4 c_w114_4_5 fz_w114_4 hl_w114_4 c_w114_5_0 c_w114_5_1 c_w114_5_2 c_w114_5_3 c_w114_5_4 c_w114_5_5 fz_w114_5 hl_w114_5
  go_wp2_with fail
  refine HQ_.out _ _ _ ?_
  clear HQ_ Q_
  go_wp2_with fail
  -- own blocks: w.heap.size:6, w106.heap.size:6, g_r7_12:6, g_r8_10:6, w113.heap.size:6, w113.heap.size + 1:6, g_r10_13:6, g_r10_12:6
  (go_at_call 49; refine (K16.out _).mono ?_; rintro e w117 ⟨rfl, hb_w117⟩; have hz_w117 := hb_w117.size; (try simp at hz_w117); (with_reducible apply cel6 (b := w.heap.size) hb_w117); (focus ((try simp) <;> omega)); (focus omega); (focus (go_simp; try exact rfl)); (focus (go_simp; try exact rfl)); (focus (go_simp; try exact rfl)); (focus (go_simp; try exact rfl)); (focus (go_simp; try exact rfl)); (focus (go_simp; try exact rfl)); (focus (intro o; go_simp)); intro c_w117_0_0 c_w117_0_1 c_w117_0_2 c_w117_0_3 c_w117_0_4 c_w117_0_5 fz_w117_0 hl_w117_0; (with_reducible apply cel6 (b := w106.heap.size) hb_w117); (focus ((try simp) <;> omega)); (focus omega); (focus (go_simp; try exact rfl)); (focus (go_simp; try exact rfl)); (focus (go_simp; try exact rfl)); (focus (go_simp; try exact rfl)); (focus (go_simp; try exact rfl)); (focus (go_simp; try exact rfl)); (focus (intro o; go_simp)); intro c_w117_1_0 c_w117_1_1 c_w117_1_2 c_w117_1_3 c_w117_1_4 c_w117_1_5 fz_w117_1 hl_w117_1; (with_reducible apply cel6 (b := g_r7_12) hb_w117); (focus ((try simp) <;> omega)); (focus omega); (focus (go_simp; try exact rfl)); (focus (go_simp; try exact rfl)); (focus (go_simp; try exact rfl)); (focus (go_simp; try exact rfl)); (focus (go_simp; try exact rfl)); (focus (go_simp; try exact rfl)); (focus (intro o; go_simp)); intro c_w117_2_0 c_w117_2_1 c_w117_2_2 c_w117_2_3 c_w117_2_4 c_w117_2_5 fz_w117_2 hl_w117_2; (with_reducible apply cel6 (b := g_r8_10) hb_w117); (focus ((try simp) <;> omega)); (focus omega); (focus (go_simp; try exact rfl)); (focus (go_simp; try exact rfl)); (focus (go_simp; try exact rfl)); (focus (go_simp; try exact rfl)); (focus (go_simp; try exact rfl)); (focus (go_simp; try exact rfl)); (focus (intro o; go_simp)); intro c_w117_3_0 c_w117_3_1 c_w117_3_2 c_w117_3_3 c_w117_3_4 c_w117_3_5 fz_w117_3 hl_w117_3; (with_reducible apply cel6 (b := w113.heap.size) hb_w117); (focus ((try simp) <;> omega)); (focus omega); (focus (go_simp; try exact rfl)); (focus (go_simp; try exact rfl)); (focus (go_simp; try exact rfl)); (focus (go_simp; try exact rfl)); (focus (go_simp; try exact rfl)); (focus (go_simp; try exact rfl)); (focus (intro o; go_simp)); intro c_w117_4_0 c_w117_4_1 c_w117_4_2 c_w117_4_3 c_w117_4_4 c_w117_4_5 fz_w117_4 hl_w117_4; (with_reducible apply cel6 (b := w113.heap.size + 1) hb_w117); (focus ((try simp) <;> omega)); (focus omega); (focus (go_simp; try exact rfl)); (focus (go_simp; try exact rfl)); (focus (go_simp; try exact rfl)); (focus (go_simp; try exact rfl)); (focus (go_simp; try exact rfl)); (focus (go_simp; try exact rfl)); (focus (intro o; go_simp)); intro c_w117_5_0 c_w117_5_1 c_w117_5_2 c_w117_5_3 c_w117_5_4 c_w117_5_5 fz_w117_5 hl_w117_5; (with_reducible apply cel6 (b := g_r10_13) hb_w117); (focus ((try simp) <;> omega)); (focus omega); (focus (go_simp; try exact rfl)); (focus (go_simp; try exact rfl)); (focus (go_simp; try exact rfl)); (focus (go_simp; try exact rfl)); (focus (go_simp; try exact rfl)); (focus (go_simp; try exact rfl)); (focus (intro o; go_simp)); intro c_w117_6_0 c_w117_6_1 c_w117_6_2 c_w117_6_3 c_w117_6_4 c_w117_6_5 fz_w117_6 hl_w117_6; (with_reducible apply cel6 (b := g_r10_12) hb_w117); (focus ((try simp) <;> omega)); (focus omega); (focus (go_simp; try exact rfl)); (focus (go_simp; try exact rfl)); (focus (go_simp; try exact rfl)); (focus (go_simp; try exact rfl)); (focus (go_simp; try exact rfl)); (focus (go_simp; try exact rfl)); (focus (intro o; go_simp)); intro c_w117_7_0 c_w117_7_1 c_w117_7_2 c_w117_7_3 c_w117_7_4 c_w117_7_5 fz_w117_7 hl_w117_7)
  replace H106 := Lib.hid (RAt.below (v := .agg #[.bool s106x, .slice A106x n106x c106x, .bool s106y, .slice A106y n106y c106y, .bool s106d, .slice A106d n106d c106d]) (x := a1) (y := a2) (d := a3) (by ((repeat (first | (with_reducible exact H106.out) | (with_reducible refine RAt.al ?_ _) | (with_reducible apply RAt.st1))) <;> (first | (with_reducible assumption) | (intro _ e; cases e; done) | (go_simp; first | done | exact rfl)))) hb_w117)
  replace H108 := Lib.hid (RAt.below (v := .agg #[.bool s108x, .slice A108x n108x c108x, .bool s108y, .slice A108y n108y c108y, .bool s108d, .slice A108d n108d c108d]) (x := (-a1)) (y := a2) (d := a3) (by ((repeat (first | (with_reducible exact H108.out) | (with_reducible refine RAt.al ?_ _) | (with_reducible apply RAt.st1))) <;> (first | (with_reducible assumption) | (intro _ e; cases e; done) | (go_simp; first | done | exact rfl)))) hb_w117)
  replace H111 := Lib.hid (RAt.below (v := .agg #[.bool s111x, .slice A111x n111x c111x, .bool s111y, .slice A111y n111y c111y, .bool s111d, .slice A111d n111d c111d]) (x := a1) (y := a2) (d := a3) (by ((repeat (first | (with_reducible exact H111.out) | (with_reducible refine RAt.al ?_ _) | (with_reducible apply RAt.st1))) <;> (first | (with_reducible assumption) | (intro _ e; cases e; done) | (go_simp; first | done | exact rfl)))) hb_w117)
  replace H113u := Lib.hid (RAt.below (v := .agg #[.bool s113ux, .slice A113ux n113ux c113ux, .bool s113uy, .slice A113uy n113uy c113uy, .bool s113ud, .slice A113ud n113ud c113ud]) (x := p1) (y := p2) (d := p3) (by ((repeat (first | (with_reducible exact H113u.out) | (with_reducible refine RAt.al ?_ _) | (with_reducible apply RAt.st1))) <;> (first | (with_reducible assumption) | (intro _ e; cases e; done) | (go_simp; first | done | exact rfl)))) hb_w117)
  replace H113 := Lib.hid (RAt.below (v := .agg #[.bool s113x, .slice A113x n113x c113x, .bool s113y, .slice A113y n113y c113y, .bool s113d, .slice A113d n113d c113d]) (x := q1) (y := q2) (d := q3) (by ((repeat (first | (with_reducible exact H113.out) | (with_reducible refine RAt.al ?_ _) | (with_reducible apply RAt.st1))) <;> (first | (with_reducible assumption) | (intro _ e; cases e; done) | (go_simp; first | done | exact rfl)))) hb_w117)
  replace H115u := Lib.hid (RAt.below (v := .agg #[.bool s115ux, .slice A115ux n115ux c115ux, .bool s115uy, .slice A115uy n115uy c115uy, .bool s115ud, .slice A115ud n115ud c115ud]) (x := q1) (y := q2) (d := q3) (by ((repeat (first | (with_reducible exact H115u.out) | (with_reducible refine RAt.al ?_ _) | (with_reducible apply RAt.st1))) <;> (first | (with_reducible assumption) | (intro _ e; cases e; done) | (go_simp; first | done | exact rfl)))) hb_w117)
  replace H115 := Lib.hid (RAt.below (v := .agg #[.bool s115x, .slice A115x n115x c115x, .bool s115y, .slice A115y n115y c115y, .bool s115d, .slice A115d n115d c115d]) (x := p1) (y := p2) (d := p3) (by ((repeat (first | (with_reducible exact H115.out) | (with_reducible refine RAt.al ?_ _) | (with_reducible apply RAt.st1))) <;> (first | (with_reducible assumption) | (intro _ e; cases e; done) | (go_simp; first | done | exact rfl)))) hb_w117)
  have HB117 := Lib.hid (show Below w.heap.size w w117 by have hB := HB116.out; ((with_reducible (repeat (first | exact bR _ _ | refine bS ?_ ?_ _ | refine bA ?_ ?_ _ | refine bD ?_ | refine bT ?_ (by assumption) ?_ | refine bO (by assumption) ?_ ?_))) <;> (first | omega | (simp; done) | (simp <;> omega))))
  have hz117 : w.heap.size + 1 ≤ w117.heap.size := by omega
  clear hb_w117
  clear c_w116_r10_12_0 c_w116_r10_12_1 c_w116_r10_12_2 c_w116_r10_12_3 c_w116_r10_12_4 c_w116_r10_12_5 fz_w116_r10_12 c_w116_r10_13_0 c_w116_r10_13_1 c_w116_r10_13_2 c_w116_r10_13_3 c_w116_r10_13_4 c_w116_r10_13_5 fz_w116_r10_13 c_w116_0_0 c_w116_0_1 c_w116_0_2 c_w116_0_3 c_w116_0_4 c_w116_0_5 fz_w116_0 hl_w116_0 c_w116_1_0 c_w116_1_1 c_w116_1_2 c_w116_1_3 c_w116_1_4 c_w116_1_5 fz_w116_1 hl_w116_1 c_w116_2_0 c_w116_2_1 c_w116_2_2 c_w116_2_3 c_w116_2_4 c_w116_2_5 fz_w116_2 hl_w116_2 c_w116_3_0 c_w116_3_1 c_w116_3_2 c_w116_3_3 c_w116_3_4 c_w116_3_5 fz_w116_3 hl_w116_3 c_w116_4_0 c_w116_4_1 c_w116_4_2 c_w116_4_3 c_w116_4_4 c_w116_4_5 fz_w116_4 hl_w116_4 c_w116_5_0 c_w116_5_1 c_w116_5_2 c_w116_5_3 c_w116_5_4 c_w116_5_5 fz_w116_5 hl_w116_5
  go_wp2_with fail
  -- own blocks: w.heap.size:6, w106.heap.size:6, g_r7_12:6, g_r8_10:6, w113.heap.size:6, w113.heap.size + 1:6, g_r10_13:6, g_r10_12:6, w117.heap.size:2
  (refine pin_wp (N := _) (Nat.le_refl _) (fun w118 hb_w118 hz_w118 => ?_); (try simp at hz_w118); (with_reducible apply cel6 (b := w.heap.size) hb_w118); (focus ((try simp) <;> omega)); (focus omega); (focus (go_simp; try exact rfl)); (focus (go_simp; try exact rfl)); (focus (go_simp; try exact rfl)); (focus (go_simp; try exact rfl)); (focus (go_simp; try exact rfl)); (focus (go_simp; try exact rfl)); (focus (intro o; go_simp)); intro c_w118_0_0 c_w118_0_1 c_w118_0_2 c_w118_0_3 c_w118_0_4 c_w118_0_5 fz_w118_0 hl_w118_0; (with_reducible apply cel6 (b := w106.heap.size) hb_w118); (focus ((try simp) <;> omega)); (focus omega); (focus (go_simp; try exact rfl)); (focus (go_simp; try exact rfl)); (focus (go_simp; try exact rfl)); (focus (go_simp; try exact rfl)); (focus (go_simp; try exact rfl)); (focus (go_simp; try exact rfl)); (focus (intro o; go_simp)); intro c_w118_1_0 c_w118_1_1 c_w118_1_2 c_w118_1_3 c_w118_1_4 c_w118_1_5 fz_w118_1 hl_w118_1; (with_reducible apply cel6 (b := g_r7_12) hb_w118); (focus ((try simp) <;> omega)); (focus omega); (focus (go_simp; try exact rfl)); (focus (go_simp; try exact rfl)); (focus (go_simp; try exact rfl)); (focus (go_simp; try exact rfl)); (focus (go_simp; try exact rfl)); (focus (go_simp; try exact rfl)); (focus (intro o; go_simp)); intro c_w118_2_0 c_w118_2_1 c_w118_2_2 c_w118_2_3 c_w118_2_4 c_w118_2_5 fz_w118_2 hl_w118_2; (with_reducible apply cel6 (b := g_r8_10) hb_w118); (focus ((try simp) <;> omega)); (focus omega); (focus (go_simp; try exact rfl)); (focus (go_simp; try exact rfl)); (focus (go_simp; try exact rfl)); (focus (go_simp; try exact rfl)); (focus (go_simp; try exact rfl)); (focus (go_simp; try exact rfl)); (focus (intro o; go_simp)); intro c_w118_3_0 c_w118_3_1 c_w118_3_2 c_w118_3_3 c_w118_3_4 c_w118_3_5 fz_w118_3 hl_w118_3; (with_reducible apply cel6 (b := w113.heap.size) hb_w118); (focus ((try simp) <;> omega)); (focus omega); (focus (go_simp; try exact rfl)); (focus (go_simp; try exact rfl)); (focus (go_simp; try exact rfl)); (focus (go_simp; try exact rfl)); (focus (go_simp; try exact rfl)); (focus (go_simp; try exact rfl)); (focus (intro o; go_simp)); intro c_w118_4_0 c_w118_4_1 c_w118_4_2 c_w118_4_3 c_w118_4_4 c_w118_4_5 fz_w118_4 hl_w118_4; (with_reducible apply cel6 (b := w113.heap.size + 1) hb_w118); (focus ((try simp) <;> omega)); (focus omega); (focus (go_simp; try exact rfl)); (focus (go_simp; try exact rfl)); (focus (go_simp; try exact rfl)); (focus (go_simp; try exact rfl)); (focus (go_simp; try exact rfl)); (focus (go_simp; try exact rfl)); (focus (intro o; go_simp)); intro c_w118_5_0 c_w118_5_1 c_w118_5_2 c_w118_5_3 c_w118_5_4 c_w118_5_5 fz_w118_5 hl_w118_5; (with_reducible apply cel6 (b := g_r10_13) hb_w118); (focus ((try simp) <;> omega)); (focus omega); (focus (go_simp; try exact rfl)); (focus (go_simp; try exact rfl)); (focus (go_simp; try exact rfl)); (focus (go_simp; try exact rfl)); (focus (go_simp; try exact rfl)); (focus (go_simp; try exact rfl)); (focus (intro o; go_simp)); intro c_w118_6_0 c_w118_6_1 c_w118_6_2 c_w118_6_3 c_w118_6_4 c_w118_6_5 fz_w118_6 hl_w118_6; (with_reducible apply cel6 (b := g_r10_12) hb_w118); (focus ((try simp) <;> omega)); (focus omega); (focus (go_simp; try exact rfl)); (focus (go_simp; try exact rfl)); (focus (go_simp; try exact rfl)); (focus (go_simp; try exact rfl)); (focus (go_simp; try exact rfl)); (focus (go_simp; try exact rfl)); (focus (intro o; go_simp)); intro c_w118_7_0 c_w118_7_1 c_w118_7_2 c_w118_7_3 c_w118_7_4 c_w118_7_5 fz_w118_7 hl_w118_7; (with_reducible apply cel2 (b := w117.heap.size) hb_w118); (focus ((try simp) <;> omega)); (focus omega); (focus (go_simp; try exact rfl)); (focus (go_simp; try exact rfl)); (focus (intro o; go_simp)); intro c_w118_8_0 c_w118_8_1 fz_w118_8 hl_w118_8); refine wp_q (fun Q_ HQ_ => ?_); refine wp_region_floatQ w118.heap.size 56 [] (Nat.le_refl _) (fun _ => True) trivial Cl.tt (by kernel_rfl) (by kernel_rfl) ?_
  replace H106 := Lib.hid (RAt.below (v := .agg #[.bool s106x, .slice A106x n106x c106x, .bool s106y, .slice A106y n106y c106y, .bool s106d, .slice A106d n106d c106d]) (x := a1) (y := a2) (d := a3) (by ((repeat (first | (with_reducible exact H106.out) | (with_reducible refine RAt.al ?_ _) | (with_reducible apply RAt.st1))) <;> (first | (with_reducible assumption) | (intro _ e; cases e; done) | (go_simp; first | done | exact rfl)))) hb_w118)
  replace H108 := Lib.hid (RAt.below (v := .agg #[.bool s108x, .slice A108x n108x c108x, .bool s108y, .slice A108y n108y c108y, .bool s108d, .slice A108d n108d c108d]) (x := (-a1)) (y := a2) (d := a3) (by ((repeat (first | (with_reducible exact H108.out) | (with_reducible refine RAt.al ?_ _) | (with_reducible apply RAt.st1))) <;> (first | (with_reducible assumption) | (intro _ e; cases e; done) | (go_simp; first | done | exact rfl)))) hb_w118)
  replace H111 := Lib.hid (RAt.below (v := .agg #[.bool s111x, .slice A111x n111x c111x, .bool s111y, .slice A111y n111y c111y, .bool s111d, .slice A111d n111d c111d]) (x := a1) (y := a2) (d := a3) (by ((repeat (first | (with_reducible exact H111.out) | (with_reducible refine RAt.al ?_ _) | (with_reducible apply RAt.st1))) <;> (first | (with_reducible assumption) | (intro _ e; cases e; done) | (go_simp; first | done | exact rfl)))) hb_w118)
  replace H113u := Lib.hid (RAt.below (v := .agg #[.bool s113ux, .slice A113ux n113ux c113ux, .bool s113uy, .slice A113uy n113uy c113uy, .bool s113ud, .slice A113ud n113ud c113ud]) (x := p1) (y := p2) (d := p3) (by ((repeat (first | (with_reducible exact H113u.out) | (with_reducible refine RAt.al ?_ _) | (with_reducible apply RAt.st1))) <;> (first | (with_reducible assumption) | (intro _ e; cases e; done) | (go_simp; first | done | exact rfl)))) hb_w118)
  replace H113 := Lib.hid (RAt.below (v := .agg #[.bool s113x, .slice A113x n113x c113x, .bool s113y, .slice A113y n113y c113y, .bool s113d, .slice A113d n113d c113d]) (x := q1) (y := q2) (d := q3) (by ((repeat (first | (with_reducible exact H113.out) | (with_reducible refine RAt.al ?_ _) | (with_reducible apply RAt.st1))) <;> (first | (with_reducible assumption) | (intro _ e; cases e; done) | (go_simp; first | done | exact rfl)))) hb_w118)
  replace H115u := Lib.hid (RAt.below (v := .agg #[.bool s115ux, .slice A115ux n115ux c115ux, .bool s115uy, .slice A115uy n115uy c115uy, .bool s115ud, .slice A115ud n115ud c115ud]) (x := q1) (y := q2) (d := q3) (by ((repeat (first | (with_reducible exact H115u.out) | (with_reducible refine RAt.al ?_ _) | (with_reducible apply RAt.st1))) <;> (first | (with_reducible assumption) | (intro _ e; cases e; done) | (go_simp; first | done | exact rfl)))) hb_w118)
  replace H115 := Lib.hid (RAt.below (v := .agg #[.bool s115x, .slice A115x n115x c115x, .bool s115y, .slice A115y n115y c115y, .bool s115d, .slice A115d n115d c115d]) (x := p1) (y := p2) (d := p3) (by ((repeat (first | (with_reducible exact H115.out) | (with_reducible refine RAt.al ?_ _) | (with_reducible apply RAt.st1))) <;> (first | (with_reducible assumption) | (intro _ e; cases e; done) | (go_simp; first | done | exact rfl)))) hb_w118)
  have HB118 := Lib.hid (show Below w.heap.size w w118 by have hB := HB117.out; ((with_reducible (repeat (first | exact bR _ _ | refine bS ?_ ?_ _ | refine bA ?_ ?_ _ | refine bD ?_ | refine bT ?_ (by assumption) ?_ | refine bO (by assumption) ?_ ?_))) <;> (first | omega | (simp; done) | (simp <;> omega))))
  have hz118 : w.heap.size + 1 ≤ w118.heap.size := by omega
  clear hb_w118
  clear c_w117_0_0 c_w117_0_1 c_w117_0_2 c_w117_0_3 c_w117_0_4 c_w117_0_5 fz_w117_0 hl_w117_0 c_w117_1_0 c_w117_1_1 c_w117_1_2 c_w117_1_3 c_w117_1_4 c_w117_1_5 fz_w117_1 hl_w117_1 c_w117_2_0 c_w117_2_1 c_w117_2_2 c_w117_2_3 c_w117_2_4 c_w117_2_5 fz_w117_2 hl_w117_2 c_w117_3_0 c_w117_3_1 c_w117_3_2 c_w117_3_3 c_w117_3_4 c_w117_3_5 fz_w117_3 hl_w117_3 c_w117_4_0 c_w117_4_1 c_w117_4_2 c_w117_4_3 c_w117_4_4 c_w117_4_5 fz_w117_4 hl_w117_4 c_w117_5_0 c_w117_5_1 c_w117_5_2 c_w117_5_3 c_w117_5_4 c_w117_5_5 fz_w117_5 hl_w117_5 c_w117_6_0 c_w117_6_1 c_w117_6_2 c_w117_6_3 c_w117_6_4 c_w117_6_5 fz_w117_6 hl_w117_6 c_w117_7_0 c_w117_7_1 c_w117_7_2 c_w117_7_3 c_w117_7_4 c_w117_7_5 fz_w117_7 hl_w117_7
  refine wpQI_start [0, 1] ?_; (iterate 2 (first | (refine wpQI_off (by with_reducible (refine List.getElem?_toArray.trans ?_; (repeat (first | exact List.getElem?_cons_zero | refine List.getElem?_cons_succ.trans ?_)))) (by kernel_rfl) (by exact rfl) (fun K hK => ?_); go_simp; refine hK _ ?_; clear hK K) | ((first | apply wpQI_step (by with_reducible (refine List.getElem?_toArray.trans ?_; (repeat (first | exact List.getElem?_cons_zero | refine List.getElem?_cons_succ.trans ?_)))) (by kernel_rfl) (by exact rfl) | apply wpQI_on (by with_reducible (refine List.getElem?_toArray.trans ?_; (repeat (first | exact List.getElem?_cons_zero | refine List.getElem?_cons_succ.trans ?_)))) (by kernel_rfl) (by exact rfl)); (focus (intro W' hS; have hcS := hS.cells.1; have hfS := hS.cells.2; go_simp; (first | done | exact rfl | exact ⟨rfl, Below.refl _ _⟩ | (go_simp; first | done | exact rfl | exact ⟨rfl, Below.refl _ _⟩)))); intro K hK; go_simp; (try go_bits); refine hK _ ?_; clear hK K))); refine wpQI_nil ?_
  apply wpQ_call (i := 2) (by with_reducible (refine List.getElem?_toArray.trans ?_; (repeat (first | exact List.getElem?_cons_zero | refine List.getElem?_cons_succ.trans ?_)))) (by kernel_rfl) (by exact rfl); intro W hF hS; have hcS := hS.1.cells.1; have hfS := hS.1.cells.2; go_simp; (go_at_call 53; refine (K17.out _ _ ((H106.out.below hS.1.2))).mono ?_; rintro e w119 ⟨hb_w119, v119, rfl, hv119⟩; refine XPost.mk _ (fun W => RAt W v119 ((-a1)) (a2) (a3)) hb_w119 (hv119) (RAt.cl _ _ _ _) ?_); clear hb_w119 hcS hfS hS hF
  intro K hK; go_simp; (try go_bits); refine hK _ ?_; clear hK K
  obtain ⟨s119x, A119x, n119x, c119x, s119y, A119y, n119y, c119y, s119d, A119d, n119d, c119d, rfl⟩ := RAt.val hv119
  clear hv119
  apply wpQ_call (i := 3) (by with_reducible (refine List.getElem?_toArray.trans ?_; (repeat (first | exact List.getElem?_cons_zero | refine List.getElem?_cons_succ.trans ?_)))) (by kernel_rfl) (by exact rfl); intro W hF hS; have hcS := hS.1.cells.1; have hfS := hS.1.cells.2; go_simp; (go_at_call 30; refine (K18.out _ _ _ ((H108.out.below hS.1.2)) (hF)).mono ?_; rintro e w120 ⟨rfl, hb_w120⟩; refine XPost.mk _ (fun _ => True) hb_w120 (trivial) (Cl.tt) ?_); clear hb_w120 hcS hfS hS hF
  intro K hK; go_simp; (try go_bits); refine hK _ ?_; clear hK K
  refine wpQI_start [4, 5, 6] ?_; (iterate 3 (first | (refine wpQI_off (by with_reducible (refine List.getElem?_toArray.trans ?_; (repeat (first | exact List.getElem?_cons_zero | refine List.getElem?_cons_succ.trans ?_)))) (by kernel_rfl) (by exact rfl) (fun K hK => ?_); go_simp; refine hK _ ?_; clear hK K) | ((first | apply wpQI_step (by with_reducible (refine List.getElem?_toArray.trans ?_; (repeat (first | exact List.getElem?_cons_zero | refine List.getElem?_cons_succ.trans ?_)))) (by kernel_rfl) (by exact rfl) | apply wpQI_on (by with_reducible (refine List.getElem?_toArray.trans ?_; (repeat (first | exact List.getElem?_cons_zero | refine List.getElem?_cons_succ.trans ?_)))) (by kernel_rfl) (by exact rfl)); (focus (intro W' hS; have hcS := hS.cells.1; have hfS := hS.cells.2; go_simp; (first | done | exact rfl | exact ⟨rfl, Below.refl _ _⟩ | (go_simp; first | done | exact rfl | exact ⟨rfl, Below.refl _ _⟩)))); intro K hK; go_simp; (try go_bits); refine hK _ ?_; clear hK K))); refine wpQI_nil ?_
  apply wpQ_call (i := 7) (by with_reducible (refine List.getElem?_toArray.trans ?_; (repeat (first | exact List.getElem?_cons_zero | refine List.getElem?_cons_succ.trans ?_)))) (by kernel_rfl) (by exact rfl); intro W hF hS; have hcS := hS.1.cells.1; have hfS := hS.1.cells.2; go_simp; (go_at_call 30; refine (K19.out _ _ _ ((H111.out.below hS.1.2)) ((H106.out.below hS.1.2))).mono ?_; rintro e w121 ⟨rfl, hb_w121⟩; refine XPost.mk _ (fun _ => True) hb_w121 (trivial) (Cl.tt) ?_); clear hb_w121 hcS hfS hS hF
  intro K hK; go_simp; (try go_bits); refine hK _ ?_; clear hK K
  refine wpQI_start [8, 9, 10, 11] ?_; (iterate 4 (first | (refine wpQI_off (by with_reducible (refine List.getElem?_toArray.trans ?_; (repeat (first | exact List.getElem?_cons_zero | refine List.getElem?_cons_succ.trans ?_)))) (by kernel_rfl) (by exact rfl) (fun K hK => ?_); go_simp; refine hK _ ?_; clear hK K) | ((first | apply wpQI_step (by with_reducible (refine List.getElem?_toArray.trans ?_; (repeat (first | exact List.getElem?_cons_zero | refine List.getElem?_cons_succ.trans ?_)))) (by kernel_rfl) (by exact rfl) | apply wpQI_on (by with_reducible (refine List.getElem?_toArray.trans ?_; (repeat (first | exact List.getElem?_cons_zero | refine List.getElem?_cons_succ.trans ?_)))) (by kernel_rfl) (by exact rfl)); (focus (intro W' hS; have hcS := hS.cells.1; have hfS := hS.cells.2; go_simp; (first | done | exact rfl | exact ⟨rfl, Below.refl _ _⟩ | (go_simp; first | done | exact rfl | exact ⟨rfl, Below.refl _ _⟩)))); intro K hK; go_simp; (try go_bits); refine hK _ ?_; clear hK K))); refine wpQI_nil ?_
  apply wpQ_call (i := 12) (by with_reducible (refine List.getElem?_toArray.trans ?_; (repeat (first | exact List.getElem?_cons_zero | refine List.getElem?_cons_succ.trans ?_)))) (by kernel_rfl) (by exact rfl); intro W hF hS; have hcS := hS.1.cells.1; have hfS := hS.1.cells.2; go_simp; (go_at_call 30; refine (K20.out _ _ _ ((H115u.out.below hS.1.2)) ((H113.out.below hS.1.2))).mono ?_; rintro e w122 ⟨rfl, hb_w122⟩; refine XPost.mk _ (fun _ => True) hb_w122 (trivial) (Cl.tt) ?_); clear hb_w122 hcS hfS hS hF
  intro K hK; go_simp; (try go_bits); refine hK _ ?_; clear hK K
  refine wpQI_start [13, 14, 15, 16] ?_; (iterate 4 (first | (refine wpQI_off (by with_reducible (refine List.getElem?_toArray.trans ?_; (repeat (first | exact List.getElem?_cons_zero | refine List.getElem?_cons_succ.trans ?_)))) (by kernel_rfl) (by exact rfl) (fun K hK => ?_); go_simp; refine hK _ ?_; clear hK K) | ((first | apply wpQI_step (by with_reducible (refine List.getElem?_toArray.trans ?_; (repeat (first | exact List.getElem?_cons_zero | refine List.getElem?_cons_succ.trans ?_)))) (by kernel_rfl) (by exact rfl) | apply wpQI_on (by with_reducible (refine List.getElem?_toArray.trans ?_; (repeat (first | exact List.getElem?_cons_zero | refine List.getElem?_cons_succ.trans ?_)))) (by kernel_rfl) (by exact rfl)); (focus (intro W' hS; have hcS := hS.cells.1; have hfS := hS.cells.2; go_simp; (first | done | exact rfl | exact ⟨rfl, Below.refl _ _⟩ | (go_simp; first | done | exact rfl | exact ⟨rfl, Below.refl _ _⟩)))); intro K hK; go_simp; (try go_bits); refine hK _ ?_; clear hK K))); refine wpQI_nil ?_
  apply wpQ_call (i := 17) (by with_reducible (refine List.getElem?_toArray.trans ?_; (repeat (first | exact List.getElem?_cons_zero | refine List.getElem?_cons_succ.trans ?_)))) (by kernel_rfl) (by exact rfl); intro W hF hS; have hcS := hS.1.cells.1; have hfS := hS.1.cells.2; go_simp; (go_at_call 30; refine (K21.out _ _ _ ((H115.out.below hS.1.2)) ((H113u.out.below hS.1.2))).mono ?_; rintro e w123 ⟨rfl, hb_w123⟩; refine XPost.mk _ (fun _ => True) hb_w123 (trivial) (Cl.tt) ?_); clear hb_w123 hcS hfS hS hF
  intro K hK; go_simp; (try go_bits); refine hK _ ?_; clear hK K
  refine wpQI_start [18, 19, 20, 21] ?_; (iterate 4 (first | (refine wpQI_off (by with_reducible (refine List.getElem?_toArray.trans ?_; (repeat (first | exact List.getElem?_cons_zero | refine List.getElem?_cons_succ.trans ?_)))) (by kernel_rfl) (by exact rfl) (fun K hK => ?_); go_simp; refine hK _ ?_; clear hK K) | ((first | apply wpQI_step (by with_reducible (refine List.getElem?_toArray.trans ?_; (repeat (first | exact List.getElem?_cons_zero | refine List.getElem?_cons_succ.trans ?_)))) (by kernel_rfl) (by exact rfl) | apply wpQI_on (by with_reducible (refine List.getElem?_toArray.trans ?_; (repeat (first | exact List.getElem?_cons_zero | refine List.getElem?_cons_succ.trans ?_)))) (by kernel_rfl) (by exact rfl)); (focus (intro W' hS; have hcS := hS.cells.1; have hfS := hS.cells.2; go_simp; (first | done | exact rfl | exact ⟨rfl, Below.refl _ _⟩ | (go_simp; first | done | exact rfl | exact ⟨rfl, Below.refl _ _⟩)))); intro K hK; go_simp; (try go_bits); refine hK _ ?_; clear hK K))); refine wpQI_nil ?_
  refine wpQI_start [24] ?_; (iterate 1 (first | (refine wpQI_off (by with_reducible (refine List.getElem?_toArray.trans ?_; (repeat (first | exact List.getElem?_cons_zero | refine List.getElem?_cons_succ.trans ?_)))) (by kernel_rfl) (by exact rfl) (fun K hK => ?_); go_simp; refine hK _ ?_; clear hK K) | ((first | apply wpQI_step (by with_reducible (refine List.getElem?_toArray.trans ?_; (repeat (first | exact List.getElem?_cons_zero | refine List.getElem?_cons_succ.trans ?_)))) (by kernel_rfl) (by exact rfl) | apply wpQI_on (by with_reducible (refine List.getElem?_toArray.trans ?_; (repeat (first | exact List.getElem?_cons_zero | refine List.getElem?_cons_succ.trans ?_)))) (by kernel_rfl) (by exact rfl)); (focus (intro W' hS; have hcS := hS.cells.1; have hfS := hS.cells.2; go_simp; (first | done | exact rfl | exact ⟨rfl, Below.refl _ _⟩ | (go_simp; first | done | exact rfl | exact ⟨rfl, Below.refl _ _⟩)))); intro K hK; go_simp; (try go_bits); refine hK _ ?_; clear hK K))); refine wpQI_nil ?_
  refine wpQI_start [22] ?_; (iterate 1 (first | (refine wpQI_off (by with_reducible (refine List.getElem?_toArray.trans ?_; (repeat (first | exact List.getElem?_cons_zero | refine List.getElem?_cons_succ.trans ?_)))) (by kernel_rfl) (by exact rfl) (fun K hK => ?_); go_simp; refine hK _ ?_; clear hK K) | ((first | apply wpQI_step (by with_reducible (refine List.getElem?_toArray.trans ?_; (repeat (first | exact List.getElem?_cons_zero | refine List.getElem?_cons_succ.trans ?_)))) (by kernel_rfl) (by exact rfl) | apply wpQI_on (by with_reducible (refine List.getElem?_toArray.trans ?_; (repeat (first | exact List.getElem?_cons_zero | refine List.getElem?_cons_succ.trans ?_)))) (by kernel_rfl) (by exact rfl)); (focus (intro W' hS; have hcS := hS.cells.1; have hfS := hS.cells.2; go_simp; (first | done | exact rfl | exact ⟨rfl, Below.refl _ _⟩ | (go_at_call 51; exact (K9.out _).mono (fun _ _ h => ⟨h.1, h.2⟩)) | (go_simp; first | done | exact rfl | exact ⟨rfl, Below.refl _ _⟩)))); intro K hK; go_simp; (try go_bits); refine hK _ ?_; clear hK K))); refine wpQI_nil ?_
  refine wpQI_start [23] ?_; (iterate 1 (first | (refine wpQI_off (by with_reducible (refine List.getElem?_toArray.trans ?_; (repeat (first | exact List.getElem?_cons_zero | refine List.getElem?_cons_succ.trans ?_)))) (by kernel_rfl) (by exact rfl) (fun K hK => ?_); go_simp; refine hK _ ?_; clear hK K) | ((first | apply wpQI_step (by with_reducible (refine List.getElem?_toArray.trans ?_; (repeat (first | exact List.getElem?_cons_zero | refine List.getElem?_cons_succ.trans ?_)))) (by kernel_rfl) (by exact rfl) | apply wpQI_on (by with_reducible (refine List.getElem?_toArray.trans ?_; (repeat (first | exact List.getElem?_cons_zero | refine List.getElem?_cons_succ.trans ?_)))) (by kernel_rfl) (by exact rfl)); (focus (intro W' hS; have hcS := hS.cells.1; have hfS := hS.cells.2; go_simp; (first | done | exact rfl | exact ⟨rfl, Below.refl _ _⟩ | (go_at_call 49; exact (K22.out _).mono (fun _ _ h => ⟨h.1, h.2⟩)) | (go_simp; first | done | exact rfl | exact ⟨rfl, Below.refl _ _⟩)))); intro K hK; go_simp; (try go_bits); refine hK _ ?_; clear hK K))); refine wpQI_nil ?_
  refine wpQI_start [25] ?_; (iterate 1 (first | (refine wpQI_off (by with_reducible (refine List.getElem?_toArray.trans ?_; (repeat (first | exact List.getElem?_cons_zero | refine List.getElem?_cons_succ.trans ?_)))) (by kernel_rfl) (by exact rfl) (fun K hK => ?_); go_simp; refine hK _ ?_; clear hK K) | ((first | apply wpQI_step (by with_reducible (refine List.getElem?_toArray.trans ?_; (repeat (first | exact List.getElem?_cons_zero | refine List.getElem?_cons_succ.trans ?_)))) (by kernel_rfl) (by exact rfl) | apply wpQI_on (by with_reducible (refine List.getElem?_toArray.trans ?_; (repeat (first | exact List.getElem?_cons_zero | refine List.getElem?_cons_succ.trans ?_)))) (by kernel_rfl) (by exact rfl)); (focus (intro W' hS; have hcS := hS.cells.1; have hfS := hS.cells.2; go_simp; (first | done | exact rfl | exact ⟨rfl, Below.refl _ _⟩ | (go_at_call 51; exact (K23.out _).mono (fun _ _ h => ⟨h.1, h.2⟩)) | (go_simp; first | done | exact rfl | exact ⟨rfl, Below.refl _ _⟩)))); intro K hK; go_simp; (try go_bits); refine hK _ ?_; clear hK K))); refine wpQI_nil ?_
  refine wpQI_start [26, 27, 28, 29, 30] ?_; (iterate 5 (first | (refine wpQI_off (by with_reducible (refine List.getElem?_toArray.trans ?_; (repeat (first | exact List.getElem?_cons_zero | refine List.getElem?_cons_succ.trans ?_)))) (by kernel_rfl) (by exact rfl) (fun K hK => ?_); go_simp; refine hK _ ?_; clear hK K) | ((first | apply wpQI_step (by with_reducible (refine List.getElem?_toArray.trans ?_; (repeat (first | exact List.getElem?_cons_zero | refine List.getElem?_cons_succ.trans ?_)))) (by kernel_rfl) (by exact rfl) | apply wpQI_on (by with_reducible (refine List.getElem?_toArray.trans ?_; (repeat (first | exact List.getElem?_cons_zero | refine List.getElem?_cons_succ.trans ?_)))) (by kernel_rfl) (by exact rfl)); (focus (intro W' hS; have hcS := hS.cells.1; have hfS := hS.cells.2; go_simp; (first | done | exact rfl | exact ⟨rfl, Below.refl _ _⟩ | (go_simp; first | done | exact rfl | exact ⟨rfl, Below.refl _ _⟩)))); intro K hK; go_simp; (try go_bits); refine hK _ ?_; clear hK K))); refine wpQI_nil ?_
  refine wpQI_start [32, 33] ?_; (iterate 2 (first | (refine wpQI_off (by with_reducible (refine List.getElem?_toArray.trans ?_; (repeat (first | exact List.getElem?_cons_zero | refine List.getElem?_cons_succ.trans ?_)))) (by kernel_rfl) (by exact rfl) (fun K hK => ?_); go_simp; refine hK _ ?_; clear hK K) | ((first | apply wpQI_step (by with_reducible (refine List.getElem?_toArray.trans ?_; (repeat (first | exact List.getElem?_cons_zero | refine List.getElem?_cons_succ.trans ?_)))) (by kernel_rfl) (by exact rfl) | apply wpQI_on (by with_reducible (refine List.getElem?_toArray.trans ?_; (repeat (first | exact List.getElem?_cons_zero | refine List.getElem?_cons_succ.trans ?_)))) (by kernel_rfl) (by exact rfl)); (focus (intro W' hS; have hcS := hS.cells.1; have hfS := hS.cells.2; go_simp; (first | done | exact rfl | exact ⟨rfl, Below.refl _ _⟩ | (go_simp; first | done | exact rfl | exact ⟨rfl, Below.refl _ _⟩)))); intro K hK; go_simp; (try go_bits); refine hK _ ?_; clear hK K))); refine wpQI_nil ?_
  refine wpQI_start [35, 36] ?_; (iterate 2 (first | (refine wpQI_off (by with_reducible (refine List.getElem?_toArray.trans ?_; (repeat (first | exact List.getElem?_cons_zero | refine List.getElem?_cons_succ.trans ?_)))) (by kernel_rfl) (by exact rfl) (fun K hK => ?_); go_simp; refine hK _ ?_; clear hK K) | ((first | apply wpQI_step (by with_reducible (refine List.getElem?_toArray.trans ?_; (repeat (first | exact List.getElem?_cons_zero | refine List.getElem?_cons_succ.trans ?_)))) (by kernel_rfl) (by exact rfl) | apply wpQI_on (by with_reducible (refine List.getElem?_toArray.trans ?_; (repeat (first | exact List.getElem?_cons_zero | refine List.getElem?_cons_succ.trans ?_)))) (by kernel_rfl) (by exact rfl)); (focus (intro W' hS; have hcS := hS.cells.1; have hfS := hS.cells.2; go_simp; (first | done | exact rfl | exact ⟨rfl, Below.refl _ _⟩ | (go_simp; first | done | exact rfl | exact ⟨rfl, Below.refl _ _⟩)))); intro K hK; go_simp; (try go_bits); refine hK _ ?_; clear hK K))); refine wpQI_nil ?_
  refine wpQI_start [39, 40, 41, 42, 43, 44] ?_; (iterate 6 (first | (refine wpQI_off (by with_reducible (refine List.getElem?_toArray.trans ?_; (repeat (first | exact List.getElem?_cons_zero | refine List.getElem?_cons_succ.trans ?_)))) (by kernel_rfl) (by exact rfl) (fun K hK => ?_); go_simp; refine hK _ ?_; clear hK K) | ((first | apply wpQI_step (by with_reducible (refine List.getElem?_toArray.trans ?_; (repeat (first | exact List.getElem?_cons_zero | refine List.getElem?_cons_succ.trans ?_)))) (by kernel_rfl) (by exact rfl) | apply wpQI_on (by with_reducible (refine List.getElem?_toArray.trans ?_; (repeat (first | exact List.getElem?_cons_zero | refine List.getElem?_cons_succ.trans ?_)))) (by kernel_rfl) (by exact rfl)); (focus (intro W' hS; have hcS := hS.cells.1; have hfS := hS.cells.2; go_simp; (first | done | exact rfl | exact ⟨rfl, Below.refl _ _⟩ | (go_simp; first | done | exact rfl | exact ⟨rfl, Below.refl _ _⟩)))); intro K hK; go_simp; (try go_bits); refine hK _ ?_; clear hK K))); refine wpQI_nil ?_
  refine wpQI_start [31] ?_; (iterate 1 (first | (refine wpQI_off (by with_reducible (refine List.getElem?_toArray.trans ?_; (repeat (first | exact List.getElem?_cons_zero | refine List.getElem?_cons_succ.trans ?_)))) (by kernel_rfl) (by exact rfl) (fun K hK => ?_); go_simp; refine hK _ ?_; clear hK K) | ((first | apply wpQI_step (by with_reducible (refine List.getElem?_toArray.trans ?_; (repeat (first | exact List.getElem?_cons_zero | refine List.getElem?_cons_succ.trans ?_)))) (by kernel_rfl) (by exact rfl) | apply wpQI_on (by with_reducible (refine List.getElem?_toArray.trans ?_; (repeat (first | exact List.getElem?_cons_zero | refine List.getElem?_cons_succ.trans ?_)))) (by kernel_rfl) (by exact rfl)); (focus (intro W' hS; have hcS := hS.cells.1; have hfS := hS.cells.2; go_simp; (first | done | exact rfl | exact ⟨rfl, Below.refl _ _⟩ | (go_at_call 51; exact (K7.out _).mono (fun _ _ h => ⟨h.1, h.2⟩)) | (go_simp; first | done | exact rfl | exact ⟨rfl, Below.refl _ _⟩)))); intro K hK; go_simp; (try go_bits); refine hK _ ?_; clear hK K))); refine wpQI_nil ?_
  refine wpQI_start [34] ?_; (iterate 1 (first | (refine wpQI_off (by with_reducible (refine List.getElem?_toArray.trans ?_; (repeat (first | exact List.getElem?_cons_zero | refine List.getElem?_cons_succ.trans ?_)))) (by kernel_rfl) (by exact rfl) (fun K hK => ?_); go_simp; refine hK _ ?_; clear hK K) | ((first | apply wpQI_step (by with_reducible (refine List.getElem?_toArray.trans ?_; (repeat (first | exact List.getElem?_cons_zero | refine List.getElem?_cons_succ.trans ?_)))) (by kernel_rfl) (by exact rfl) | apply wpQI_on (by with_reducible (refine List.getElem?_toArray.trans ?_; (repeat (first | exact List.getElem?_cons_zero | refine List.getElem?_cons_succ.trans ?_)))) (by kernel_rfl) (by exact rfl)); (focus (intro W' hS; have hcS := hS.cells.1; have hfS := hS.cells.2; go_simp; (first | done | exact rfl | exact ⟨rfl, Below.refl _ _⟩ | (go_at_call 51; exact (K8.out _).mono (fun _ _ h => ⟨h.1, h.2⟩)) | (go_simp; first | done | exact rfl | exact ⟨rfl, Below.refl _ _⟩)))); intro K hK; go_simp; (try go_bits); refine hK _ ?_; clear hK K))); refine wpQI_nil ?_
  refine wpQI_start [37] ?_; (iterate 1 (first | (refine wpQI_off (by with_reducible (refine List.getElem?_toArray.trans ?_; (repeat (first | exact List.getElem?_cons_zero | refine List.getElem?_cons_succ.trans ?_)))) (by kernel_rfl) (by exact rfl) (fun K hK => ?_); go_simp; refine hK _ ?_; clear hK K) | ((first | apply wpQI_step (by with_reducible (refine List.getElem?_toArray.trans ?_; (repeat (first | exact List.getElem?_cons_zero | refine List.getElem?_cons_succ.trans ?_)))) (by kernel_rfl) (by exact rfl) | apply wpQI_on (by with_reducible (refine List.getElem?_toArray.trans ?_; (repeat (first | exact List.getElem?_cons_zero | refine List.getElem?_cons_succ.trans ?_)))) (by kernel_rfl) (by exact rfl)); (focus (intro W' hS; have hcS := hS.cells.1; have hfS := hS.cells.2; go_simp; (first | done | exact rfl | exact ⟨rfl, Below.refl _ _⟩ | (go_at_call 51; exact (K9.out _).mono (fun _ _ h => ⟨h.1, h.2⟩)) | (go_simp; first | done | exact rfl | exact ⟨rfl, Below.refl _ _⟩)))); intro K hK; go_simp; (try go_bits); refine hK _ ?_; clear hK K))); refine wpQI_nil ?_
  refine wpQI_start [38] ?_; (iterate 1 (first | (refine wpQI_off (by with_reducible (refine List.getElem?_toArray.trans ?_; (repeat (first | exact List.getElem?_cons_zero | refine List.getElem?_cons_succ.trans ?_)))) (by kernel_rfl) (by exact rfl) (fun K hK => ?_); go_simp; refine hK _ ?_; clear hK K) | ((first | apply wpQI_step (by with_reducible (refine List.getElem?_toArray.trans ?_; (repeat (first | exact List.getElem?_cons_zero | refine List.getElem?_cons_succ.trans ?_)))) (by kernel_rfl) (by exact rfl) | apply wpQI_on (by with_reducible (refine List.getElem?_toArray.trans ?_; (repeat (first | exact List.getElem?_cons_zero | refine List.getElem?_cons_succ.trans ?_)))) (by kernel_rfl) (by exact rfl)); (focus (intro W' hS; have hcS := hS.cells.1; have hfS := hS.cells.2; go_simp; (first | done | exact rfl | exact ⟨rfl, Below.refl _ _⟩ | (go_at_call 28; exact (K24.out _).mono (fun _ _ h => ⟨h.1, h.2⟩)) | (go_simp; first | done | exact rfl | exact ⟨rfl, Below.refl _ _⟩)))); intro K hK; go_simp; (try go_bits); refine hK _ ?_; clear hK K))); refine wpQI_nil ?_
  refine wpQI_start [45] ?_; (iterate 1 (first | (refine wpQI_off (by with_reducible (refine List.getElem?_toArray.trans ?_; (repeat (first | exact List.getElem?_cons_zero | refine List.getElem?_cons_succ.trans ?_)))) (by kernel_rfl) (by exact rfl) (fun K hK => ?_); go_simp; refine hK _ ?_; clear hK K) | ((first | apply wpQI_step (by with_reducible (refine List.getElem?_toArray.trans ?_; (repeat (first | exact List.getElem?_cons_zero | refine List.getElem?_cons_succ.trans ?_)))) (by kernel_rfl) (by exact rfl) | apply wpQI_on (by with_reducible (refine List.getElem?_toArray.trans ?_; (repeat (first | exact List.getElem?_cons_zero | refine List.getElem?_cons_succ.trans ?_)))) (by kernel_rfl) (by exact rfl)); (focus (intro W' hS; have hcS := hS.cells.1; have hfS := hS.cells.2; go_simp; (first | done | exact rfl | exact ⟨rfl, Below.refl _ _⟩ | (go_at_call 28; exact (K25.out _).mono (fun _ _ h => ⟨h.1, h.2⟩)) | (go_simp; first | done | exact rfl | exact ⟨rfl, Below.refl _ _⟩)))); intro K hK; go_simp; (try go_bits); refine hK _ ?_; clear hK K))); refine wpQI_nil ?_
  refine wpQI_start [46, 47, 48, 49, 50, 51] ?_; (iterate 6 (first | (refine wpQI_off (by with_reducible (refine List.getElem?_toArray.trans ?_; (repeat (first | exact List.getElem?_cons_zero | refine List.getElem?_cons_succ.trans ?_)))) (by kernel_rfl) (by exact rfl) (fun K hK => ?_); go_simp; refine hK _ ?_; clear hK K) | ((first | apply wpQI_step (by with_reducible (refine List.getElem?_toArray.trans ?_; (repeat (first | exact List.getElem?_cons_zero | refine List.getElem?_cons_succ.trans ?_)))) (by kernel_rfl) (by exact rfl) | apply wpQI_on (by with_reducible (refine List.getElem?_toArray.trans ?_; (repeat (first | exact List.getElem?_cons_zero | refine List.getElem?_cons_succ.trans ?_)))) (by kernel_rfl) (by exact rfl)); (focus (intro W' hS; have hcS := hS.cells.1; have hfS := hS.cells.2; go_simp; (first | done | exact rfl | exact ⟨rfl, Below.refl _ _⟩ | (go_simp; first | done | exact rfl | exact ⟨rfl, Below.refl _ _⟩)))); intro K hK; go_simp; (try go_bits); refine hK _ ?_; clear hK K))); refine wpQI_nil ?_
  refine wpQI_start [52] ?_; (iterate 1 (first | (refine wpQI_off (by with_reducible (refine List.getElem?_toArray.trans ?_; (repeat (first | exact List.getElem?_cons_zero | refine List.getElem?_cons_succ.trans ?_)))) (by kernel_rfl) (by exact rfl) (fun K hK => ?_); go_simp; refine hK _ ?_; clear hK K) | ((first | apply wpQI_step (by with_reducible (refine List.getElem?_toArray.trans ?_; (repeat (first | exact List.getElem?_cons_zero | refine List.getElem?_cons_succ.trans ?_)))) (by kernel_rfl) (by exact rfl) | apply wpQI_on (by with_reducible (refine List.getElem?_toArray.trans ?_; (repeat (first | exact List.getElem?_cons_zero | refine List.getElem?_cons_succ.trans ?_)))) (by kernel_rfl) (by exact rfl)); (focus (intro W' hS; have hcS := hS.cells.1; have hfS := hS.cells.2; go_simp; (first | done | exact rfl | exact ⟨rfl, Below.refl _ _⟩ | (go_at_call 54; exact (K26.out _).mono (fun _ _ h => ⟨h.1, h.2⟩)) | (go_simp; first | done | exact rfl | exact ⟨rfl, Below.refl _ _⟩)))); intro K hK; go_simp; (try go_bits); refine hK _ ?_; clear hK K))); refine wpQI_nil ?_
  refine wpQI_start [53, 54, 55] ?_; (iterate 3 (first | (refine wpQI_off (by with_reducible (refine List.getElem?_toArray.trans ?_; (repeat (first | exact List.getElem?_cons_zero | refine List.getElem?_cons_succ.trans ?_)))) (by kernel_rfl) (by exact rfl) (fun K hK => ?_); go_simp; refine hK _ ?_; clear hK K) | ((first | apply wpQI_step (by with_reducible (refine List.getElem?_toArray.trans ?_; (repeat (first | exact List.getElem?_cons_zero | refine List.getElem?_cons_succ.trans ?_)))) (by kernel_rfl) (by exact rfl) | apply wpQI_on (by with_reducible (refine List.getElem?_toArray.trans ?_; (repeat (first | exact List.getElem?_cons_zero | refine List.getElem?_cons_succ.trans ?_)))) (by kernel_rfl) (by exact rfl)); (focus (intro W' hS; have hcS := hS.cells.1; have hfS := hS.cells.2; go_simp; (first | done | exact rfl | exact ⟨rfl, Below.refl _ _⟩ | (go_simp; first | done | exact rfl | exact ⟨rfl, Below.refl _ _⟩)))); intro K hK; go_simp; (try go_bits); refine hK _ ?_; clear hK K))); refine wpQI_nil ?_
  refine wpQ_done (by kernel_rfl) ?_
  intro w124 hF_w124 hSG
  have hz_w124 := hSG.1.1
  have hb_w124 := hSG.1.2
  clear hSG
  (with_reducible apply cel6 (b := w.heap.size) hb_w124); (focus ((try simp) <;> omega)); (focus omega); (focus (go_simp; try exact rfl)); (focus (go_simp; try exact rfl)); (focus (go_simp; try exact rfl)); (focus (go_simp; try exact rfl)); (focus (go_simp; try exact rfl)); (focus (go_simp; try exact rfl)); (focus (intro o; go_simp)); intro c_w124_0_0 c_w124_0_1 c_w124_0_2 c_w124_0_3 c_w124_0_4 c_w124_0_5 fz_w124_0 hl_w124_0; (with_reducible apply cel6 (b := w106.heap.size) hb_w124); (focus ((try simp) <;> omega)); (focus omega); (focus (go_simp; try exact rfl)); (focus (go_simp; try exact rfl)); (focus (go_simp; try exact rfl)); (focus (go_simp; try exact rfl)); (focus (go_simp; try exact rfl)); (focus (go_simp; try exact rfl)); (focus (intro o; go_simp)); intro c_w124_1_0 c_w124_1_1 c_w124_1_2 c_w124_1_3 c_w124_1_4 c_w124_1_5 fz_w124_1 hl_w124_1; (with_reducible apply cel6 (b := g_r7_12) hb_w124); (focus ((try simp) <;> omega)); (focus omega); (focus (go_simp; try exact rfl)); (focus (go_simp; try exact rfl)); (focus (go_simp; try exact rfl)); (focus (go_simp; try exact rfl)); (focus (go_simp; try exact rfl)); (focus (go_simp; try exact rfl)); (focus (intro o; go_simp)); intro c_w124_2_0 c_w124_2_1 c_w124_2_2 c_w124_2_3 c_w124_2_4 c_w124_2_5 fz_w124_2 hl_w124_2; (with_reducible apply cel6 (b := g_r8_10) hb_w124); (focus ((try simp) <;> omega)); (focus omega); (focus (go_simp; try exact rfl)); (focus (go_simp; try exact rfl)); (focus (go_simp; try exact rfl)); (focus (go_simp; try exact rfl)); (focus (go_simp; try exact rfl)); (focus (go_simp; try exact rfl)); (focus (intro o; go_simp)); intro c_w124_3_0 c_w124_3_1 c_w124_3_2 c_w124_3_3 c_w124_3_4 c_w124_3_5 fz_w124_3 hl_w124_3; (with_reducible apply cel6 (b := w113.heap.size) hb_w124); (focus ((try simp) <;> omega)); (focus omega); (focus (go_simp; try exact rfl)); (focus (go_simp; try exact rfl)); (focus (go_simp; try exact rfl)); (focus (go_simp; try exact rfl)); (focus (go_simp; try exact rfl)); (focus (go_simp; try exact rfl)); (focus (intro o; go_simp)); intro c_w124_4_0 c_w124_4_1 c_w124_4_2 c_w124_4_3 c_w124_4_4 c_w124_4_5 fz_w124_4 hl_w124_4; (with_reducible apply cel6 (b := w113.heap.size + 1) hb_w124); (focus ((try simp) <;> omega)); (focus omega); (focus (go_simp; try exact rfl)); (focus (go_simp; try exact rfl)); (focus (go_simp; try exact rfl)); (focus (go_simp; try exact rfl)); (focus (go_simp; try exact rfl)); (focus (go_simp; try exact rfl)); (focus (intro o; go_simp)); intro c_w124_5_0 c_w124_5_1 c_w124_5_2 c_w124_5_3 c_w124_5_4 c_w124_5_5 fz_w124_5 hl_w124_5; (with_reducible apply cel6 (b := g_r10_13) hb_w124); (focus ((try simp) <;> omega)); (focus omega); (focus (go_simp; try exact rfl)); (focus (go_simp; try exact rfl)); (focus (go_simp; try exact rfl)); (focus (go_simp; try exact rfl)); (focus (go_simp; try exact rfl)); (focus (go_simp; try exact rfl)); (focus (intro o; go_simp)); intro c_w124_6_0 c_w124_6_1 c_w124_6_2 c_w124_6_3 c_w124_6_4 c_w124_6_5 fz_w124_6 hl_w124_6; (with_reducible apply cel6 (b := g_r10_12) hb_w124); (focus ((try simp) <;> omega)); (focus omega); (focus (go_simp; try exact rfl)); (focus (go_simp; try exact rfl)); (focus (go_simp; try exact rfl)); (focus (go_simp; try exact rfl)); (focus (go_simp; try exact rfl)); (focus (go_simp; try exact rfl)); (focus (intro o; go_simp)); intro c_w124_7_0 c_w124_7_1 c_w124_7_2 c_w124_7_3 c_w124_7_4 c_w124_7_5 fz_w124_7 hl_w124_7; (with_reducible apply cel2 (b := w117.heap.size) hb_w124); (focus ((try simp) <;> omega)); (focus omega); (focus (go_simp; try exact rfl)); (focus (go_simp; try exact rfl)); (focus (intro o; go_simp)); intro c_w124_8_0 c_w124_8_1 fz_w124_8 hl_w124_8
  (try simp only [List.filterMap_nil])
  clear H106
  clear H108
  clear H111
  clear H113u
  clear H113
  clear H115u
  clear H115
  have H119 := Lib.hid (show RAt w124 (.agg #[.bool s119x, .slice A119x n119x c119x, .bool s119y, .slice A119y n119y c119y, .bool s119d, .slice A119d n119d c119d]) ((-a1)) (a2) (a3) from hF_w124.1)
  have HB124 := Lib.hid (HB118.out.trans (hb_w124.mono (by have := HB118.out.size; omega)))
  have hz124 : w.heap.size + 1 ≤ w124.heap.size := by omega
  clear hF_w124 hb_w124
  clear c_w118_0_0 c_w118_0_1 c_w118_0_2 c_w118_0_3 c_w118_0_4 c_w118_0_5 fz_w118_0 hl_w118_0 c_w118_1_0 c_w118_1_1 c_w118_1_2 c_w118_1_3 c_w118_1_4 c_w118_1_5 fz_w118_1 hl_w118_1 c_w118_2_0 c_w118_2_1 c_w118_2_2 c_w118_2_3 c_w118_2_4 c_w118_2_5 fz_w118_2 hl_w118_2 c_w118_3_0 c_w118_3_1 c_w118_3_2 c_w118_3_3 c_w118_3_4 c_w118_3_5 fz_w118_3 hl_w118_3 c_w118_4_0 c_w118_4_1 c_w118_4_2 c_w118_4_3 c_w118_4_4 c_w118_4_5 fz_w118_4 hl_w118_4 c_w118_5_0 c_w118_5_1 c_w118_5_2 c_w118_5_3 c_w118_5_4 c_w118_5_5 fz_w118_5 hl_w118_5 c_w118_6_0 c_w118_6_1 c_w118_6_2 c_w118_6_3 c_w118_6_4 c_w118_6_5 fz_w118_6 hl_w118_6 c_w118_7_0 c_w118_7_1 c_w118_7_2 c_w118_7_3 c_w118_7_4 c_w118_7_5 fz_w118_7 hl_w118_7 c_w118_8_0 c_w118_8_1 fz_w118_8 hl_w118_8
  go_wp2_with fail
  refine HQ_.out _ _ _ ?_
  clear HQ_ Q_
  go_wp2_with fail
  -- own blocks: 
  refine bodyPost_ret (v := .bool true) (by simp only [results, Try.results10]; go_simp) rfl ⟨?_, ?_⟩
  · rfl
  · have hB := HB124.out; ((with_reducible (repeat (first | exact bR _ _ | refine bS ?_ ?_ _ | refine bA ?_ ?_ _ | refine bD ?_ | refine bT ?_ (by assumption) ?_ | refine bO (by assumption) ?_ ?_))) <;> (first | omega | (simp; done) | (simp <;> omega)))
theorem respondmirror_on (v1 v2 w1 w2 n1 n2 rest grip : Int) (w : World) (hp : permB v1 v2 w1 w2 n1 n2 = true) :
    Calls Try.prog 10 #[.agg #[.int .i64 v1, .int .i64 v2, .int .i64 w1, .int .i64 w2, .int .i64 n1, .int .i64 n2], .int .i64 rest, .int .i64 grip] w fun e w' => e = .returned (.bool true) ∧ Below w.heap.size w w' := by
  by_cases hn : -524288 ≤ n1 ∧ n1 ≤ 524288 ∧ -524288 ≤ n2 ∧ n2 ≤ 524288
  · exact respondmirror_yes v1 v2 w1 w2 n1 n2 rest grip w hp hn
  · exact respondmirror_c v1 v2 w1 w2 n1 n2 rest grip w hp hn
theorem respondmirror_law (v1 v2 w1 w2 n1 n2 rest grip : Int) (w : World) :
    Calls Try.prog 10 #[.agg #[.int .i64 v1, .int .i64 v2, .int .i64 w1, .int .i64 w2, .int .i64 n1, .int .i64 n2], .int .i64 rest, .int .i64 grip] w fun e w' => e = .returned (.bool true) ∧ Below w.heap.size w w' := by
  cases h1 : (withinB v1 v2 1048576 && withinB n1 n2 2097152)
  · exact respondmirror_a v1 v2 w1 w2 n1 n2 rest grip w h1
  · cases h2 : withinB w1 w2 1048576
    · exact respondmirror_b v1 v2 w1 w2 n1 n2 rest grip w h1 h2
    · rw [Bool.and_eq_true] at h1
      exact respondmirror_on v1 v2 w1 w2 n1 n2 rest grip w (by unfold permB; rw [h1.1, h1.2, h2]; rfl)
end Go.Proofs.Ytklkhnhieihfoaa
namespace Go.Proofs.Ytklkhnhieihfoaa
open Go Go.ChangeShapes Go.WideShapes Go.ChangeAt Go.RowKit
section
variable {H : Type} {enc : TypeId × Value → H} {P : Program} {w : World}
theorem cells_at {base : Nat} {a : Addr} {n : Nat} {row : List Value} (h : w.cells? base a n = some row) : row.length = n ∧ ∀ j v, row[j]? = some v → w.cell? (a.add j) = some v := by
  unfold World.cells? at h
  split at h
  · have hl := mapM_some_length h
    simp at hl
    refine ⟨hl, fun j v hj => ?_⟩
    have hlt : j < n := by rw [← hl]; exact (List.getElem?_eq_some_iff.1 hj).1
    have := mapM_some_get h j j (by simp [hlt])
    rw [this, hj]
  · cases h
theorem add_add' (a : Addr) (i j : Nat) : (a.add i).add j = a.add (i + j) := by
  unfold Addr.add
  by_cases hi : i = 0 <;> by_cases hj : j = 0 <;> simp [hi, hj, Nat.add_assoc]
theorem rowIs_of_trod {base : Nat} {spare : Nat → Bool} {held : Bool} : ∀ (fuel : Nat) (t : TypeId) (cs : List Value) (x : DataW H × List MemPlace), DataW.trod enc P w base spare held fuel t cs = some x → RowIs P w fuel t cs := by
  intro fuel
  induction fuel with
  | zero => intro t cs x h; simp [DataW.trod] at h
  | succ n ih =>
    intro t cs x h
    cases hu : P.underlying t with
    | none => simp only [RowIs, hu]
    | some d =>
      cases d with
      | bool => obtain ⟨b, hb, _⟩ := DataW.trod_bool hu h; simp only [RowIs, hu]; exact ⟨b, hb⟩
      | int k => obtain ⟨z, hz, _, hw⟩ := DataW.trod_int hu h; simp only [RowIs, hu]; exact ⟨z, hz, hw⟩
      | string => obtain ⟨s, hs, _, hw⟩ := DataW.trod_string hu h; simp only [RowIs, hu]; exact ⟨s, hs, hw⟩
      | struct fs =>
        obtain ⟨xs, m, hm, _, hl, hxl, hf⟩ := DataW.trod_struct hu h
        obtain rfl : m = n := by omega
        simp only [RowIs, hu]
        refine ⟨hl, fun f hfm => ?_⟩
        obtain ⟨i, hi⟩ := List.getElem?_of_mem hfm
        have h1 := hf i f (by simpa using hi)
        have hlt : i < xs.length := by rw [hxl]; have := (List.getElem?_eq_some_iff.1 hi).1; simpa using this
        rw [List.getElem?_eq_getElem hlt] at h1
        exact ih _ _ _ h1
      | slice e =>
        simp only [RowIs, hu]
        rcases DataW.trod_slice hu h with ⟨h0, _⟩ | ⟨a, len, cap, elems, rest, m, hm, hcs, _, _, hlc, hcap, hel, hat, _⟩
        · exact .inl h0
        · obtain rfl : m = n := by omega
          refine .inr ⟨a, len, cap, hcs, hlc, hcap, fun i hi => ?_⟩
          have h1 := hat i hi
          have hlt : i < elems.length := by omega
          rw [List.getElem?_eq_getElem hlt] at h1
          obtain ⟨row, hr, ht⟩ := Option.bind_eq_some_iff.1 h1
          obtain ⟨hl, hc⟩ := cells_at hr
          exact ⟨row, hl, fun j v hj => by rw [← add_add']; exact hc j v hj, ih _ _ _ ht⟩
      | _ => simp only [RowIs, hu]
end
end Go.Proofs.Ytklkhnhieihfoaa
namespace Go.Proofs.Ytklkhnhieihfoaa.lawRM
open Go.ChangeShapes Go.WideShapes Go.ChangeAt Go.RowKit
set_option linter.unusedVariables false
theorem walk (w : World) (a0 : Array Value) (n0 : Nat) (w0 : RowIs Try.prog w n0 52 a0.toList) (a1 : Int) (w1 : (Lit.int .i64 a1).wf = true) (a2 : Int) (w2 : (Lit.int .i64 a2).wf = true) :
    Calls Try.prog 10 #[.agg a0, .int .i64 a1, .int .i64 a2] w fun e w' => e = .returned (.bool true) ∧ Below w.heap.size w w' := by
  obtain ⟨px, py, vx, vy, hx, hy, e, _⟩ := row_meet w0
  obtain ⟨l⟩ := a0
  simp only at e
  subst e
  exact respondmirror_law px py vx vy hx hy a1 a2 w
theorem own : ownKnob Try.prog.godebug = none := by kernel_rfl
theorem laidOut : laidOutB Try.prog = true := by kernel_rfl
set_option maxRecDepth 100000 in
theorem lifted (os : Os) (started : os.Started) (H : Type) (enc : TypeId × Value → H) :
    ReturnsInHanded {} Try.checked os 10 .any (Rows.respondMirrorSpec.pre6 enc Try.prog Try.f10 Rows.respondMirrorRow.domain false) (Rows.respondMirrorSpec.post enc Try.prog Try.f10 false true false false) := by
  refine returnsInHanded_of_change (C := Try.checked) own started (by kernel_rfl) Try.func10
    (ChangeSpec.witness6 (enc := enc) (C := Try.checked) false ⟨#[], #[.agg #[.int .i64 0, .int .i64 0, .int .i64 0, .int .i64 0, .int .i64 0, .int .i64 0], .int .i64 0, .int .i64 0], []⟩ 8 (by kernel_rfl) (by kernel_rfl) (by kernel_rfl) (by kernel_rfl)) ?_
  intro W base args ds gs before hval0 hW hcnd _
  have hval : ∀ (j : Nat) t v, Try.f10.params[j]? = some t → args[j]? = some v → Value.okWide Try.prog W .any base t v := hval0
  have hW' := hW
  obtain ⟨p, q, hA0, hV, rfl, hfz, hnd⟩ := hW
  have hA : DataW.TrodAll enc Try.prog W 0 (fun _ => true) true Try.f10.params.toList args.toList ds p := hA0
  rw [Try.params10] at hA hval
  obtain ⟨v0, vs0, d0, ds0, p0, q0, hargs, rfl, rfl, h0, r0⟩ := trodAll_cons hA
  obtain ⟨v1, vs1, d1, ds1, p1, q1, rfl, rfl, rfl, h1, r1⟩ := trodAll_cons r0
  obtain ⟨v2, vs2, d2, ds2, p2, q2, rfl, rfl, rfl, h2, r2⟩ := trodAll_cons r1
  obtain ⟨rfl, rfl, rfl⟩ := trodAll_nil r2
  obtain rfl : args = #[v0, v1, v2] := by cases args; simp_all
  obtain ⟨rfl, rfl⟩ := trodVars_none hV
  obtain ⟨a0, rfl, hs0⟩ := okWide_struct Try.underlying52 (hval 0 52 v0 rfl rfl)
  have k0 := h0
  have lt0 : ∀ x ∈ p0, x.block < W.heap.size := by obtain ⟨m, hm⟩ := k0; exact DataW.trod_lt m _ _ _ hm
  obtain ⟨n0, w0⟩ : ∃ n, RowIs Try.prog W n 52 a0.toList := by obtain ⟨fuel, hf⟩ := h0; exact ⟨fuel, rowIs_of_trod fuel _ _ _ hf⟩
  obtain ⟨a1, rfl, rfl, rfl, w1⟩ := open_int Try.underlying3 (hval 1 3 v1 rfl rfl) h1
  obtain ⟨a2, rfl, rfl, rfl, w2⟩ := open_int Try.underlying3 (hval 2 3 v2 rfl rfl) h2
  clear hA0 hval0
  refine (walk W a0 n0 w0 a1 w1 a2 w2).mono fun e W' ⟨he, bel⟩ => ?_
  subst he
  exact ⟨_, rfl, _, _, _, [], _, [], hW', trodAll_mk1 (shut_bool Try.underlying4 _), (trodAll_cons_mk (Below.trod laidOut (by kernel_rfl) (of_decide_eq_true (by kernel_rfl)) k0 bel lt0) (trodAll_cons_mk (shut_int Try.underlying3 w1) (trodAll_cons_mk (shut_int Try.underlying3 w2) trodAll_mk0))), rfl, bel.frame _, fun h => by cases h⟩
theorem over : Rows.respondMirrorRow.holds Try.pinned (OpenSpec.ofChange Rows.respondMirrorSpec) :=
  OpenClaim.holds_of_wide 10 Try.f10 rfl rfl rfl rfl rfl rfl rfl ⟨rfl, rfl, rfl, rfl, rfl⟩ rfl rfl rfl rfl rfl (by kernel_rfl) Try.func10 (by kernel_rfl)
    (of_decide_eq_true (by kernel_rfl)) (by unfold Func.isWrapper; first | (rw [if_pos (by decide +kernel)]; kernel_rfl) | (rw [if_neg (by decide +kernel)]; exact ⟨rfl, rfl⟩))
    (fun os started H enc _ => lifted os started H enc)
theorem proved : Rows.RespondMirrorSaid := over
#print axioms proved
end Go.Proofs.Ytklkhnhieihfoaa.lawRM
