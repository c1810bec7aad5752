/- An integer that came in, opened; few and plain of the laws of layer 1. -/
import Derived.Test.YtadkcipjcmkoiaaOpen
import Derived.Test.YtadkcipjcmkoiaaIw
import Derived.Test.YtadkcipjcmkoiaaRows
namespace Go.Proofs.Ytadkcipjcmkoiaa
open Go Go.RowKit
set_option linter.unusedVariables false
theorem ret_bool {a b : Bool} (h : a = b) : Ending.returned (.bool a) = .returned (.bool b) := by rw [h]
theorem cells_bool : Try.prog.cellsOf 4 = 1 := by kernel_rfl
theorem cells_limbs : Try.prog.cellsOf 22 = 1 := by kernel_rfl
theorem cells_limb : Try.prog.cellsOf 50 = 1 := by kernel_rfl
theorem cells_apiInt : Try.prog.cellsOf 24 = 2 := by kernel_rfl
theorem u32_bd {z : Int} (h : (Lit.int .u32 z).wf = true) : 0 ≤ z ∧ z < 4294967296 := by
  have h1 : IntKind.u32.min = 0 := by decide
  have h2 : IntKind.u32.max = 4294967295 := by decide
  simp [Lit.wf] at h
  omega
theorem limbs_open {w : World} {n : Nat} {A : Option Addr} {len cap : Nat} (h : RowIs Try.prog w n 22 [.slice A len cap]) :
    len ≤ cap ∧ len ≤ maxLen ∧ ∃ l : List Int, l.length = len ∧ LAt w A l ∧ Lim l := by
  rcases rowIs_slice Try.underlying22 h with h0 | ⟨a, len', cap', m, hcs, hlc, hcap, hrows⟩
  · simp only [List.cons.injEq, Value.slice.injEq, and_true] at h0
    obtain ⟨rfl, rfl, rfl⟩ := h0
    exact ⟨Nat.le_refl _, by unfold maxLen; omega, [], rfl, LAt.nil _ _, fun x hx => by simp at hx⟩
  · simp only [List.cons.injEq, Value.slice.injEq, and_true] at hcs
    obtain ⟨rfl, rfl, rfl⟩ := hcs
    refine ⟨hlc, by omega, ?_⟩
    have hr : ∀ i, i < len → ∃ x : Int, (0 ≤ x ∧ x < 4294967296) ∧ w.cell? (a.add i) = some (.int .u32 x) := by
      intro i hi
      obtain ⟨row, hl, hc, hrow⟩ := hrows i hi
      obtain ⟨x, rfl, wx⟩ := rowIs_int Try.underlying50 hrow
      rw [cells_limb] at hc
      have := hc 0 _ rfl
      rw [Nat.mul_one, Nat.add_zero] at this
      exact ⟨x, u32_bd wx, this⟩
    have build : ∀ m, m ≤ len → ∃ l : List Int, l.length = m ∧ (∀ k x, l[k]? = some x → (0 ≤ x ∧ x < 4294967296) ∧ w.cell? (a.add k) = some (.int .u32 x)) := by
      intro m
      induction m with
      | zero => intro _; exact ⟨[], rfl, fun k x h => by simp at h⟩
      | succ m ih =>
        intro hm
        obtain ⟨l, hl, hp⟩ := ih (by omega)
        obtain ⟨x, hx⟩ := hr m (by omega)
        refine ⟨l ++ [x], by simp [hl], fun k y hk => ?_⟩
        rcases Nat.lt_or_ge k l.length with h | h
        · rw [List.getElem?_append_left h] at hk; exact hp k y hk
        · rw [List.getElem?_append_right h] at hk
          have hk0 : k = m := by
            have := (List.getElem?_eq_some_iff.1 hk).1
            simp at this; omega
          subst hk0
          rw [hl, Nat.sub_self] at hk
          simp only [List.getElem?_cons_zero, Option.some.injEq] at hk
          subst hk
          exact hx
    obtain ⟨l, hl, hp⟩ := build len (Nat.le_refl _)
    refine ⟨l, hl, fun k x hx => ?_, fun x hx => ?_⟩
    · have hlt : 0 < l.length := by have := (List.getElem?_eq_some_iff.1 hx).1; omega
      have hc0 := (hp 0 l[0] (by simp)).2
      have hc := (hp k x hx).2
      obtain ⟨g, o, spot⟩ := a
      have hsp : spot = none := by simpa [Addr.add] using World.cell?_spot hc0
      subst hsp
      have hadd : ∀ j, (⟨g, o, none⟩ : Addr).add j = ⟨g, o + j, none⟩ := by intro j; unfold Addr.add; split <;> simp_all
      rw [hadd] at hc
      exact ⟨g, o, rfl, by simpa using World.block_lt_of_cell? w _ hc, hc⟩
    · obtain ⟨k, hk⟩ := List.getElem?_of_mem hx
      exact (hp k x hk).1
/-- An integer's cells: the sign and the limbs. -/
theorem int_open {w : World} {n : Nat} {cs : List Value} (h : RowIs Try.prog w n 24 cs) :
    ∃ p A len cap z, cs = [.bool p, .slice A len cap] ∧ len ≤ maxLen ∧ IsZ w (.agg #[.bool p, .slice A len cap]) len z := by
  obtain ⟨hl, m, hf⟩ := rowIs_struct Try.underlying24 h
  rw [cells_apiInt] at hl
  obtain ⟨c0, c1, rfl⟩ := len2 hl
  obtain ⟨h0, h1⟩ := all2 hf
  simp only [cells_bool, cells_limbs, List.drop_zero, List.drop_succ_cons, List.take_succ_cons, List.take_zero] at h0 h1
  obtain ⟨p, hp⟩ := rowIs_bool Try.underlying4 h0
  simp only [List.cons.injEq, and_true] at hp
  subst hp
  have hs : ∃ A len cap, c1 = .slice A len cap := by
    rcases rowIs_slice Try.underlying22 h1 with h0 | ⟨a, len', cap', m, hcs, _⟩
    · simp only [List.cons.injEq, and_true] at h0
      exact ⟨_, _, _, h0⟩
    · simp only [List.cons.injEq, and_true] at hcs
      exact ⟨_, _, _, hcs⟩
  obtain ⟨A, len, cap, rfl⟩ := hs
  obtain ⟨hc, hm, l, rfl, hA, hL⟩ := limbs_open h1
  exact ⟨p, A, l.length, cap, sv p (mv l), rfl, hm, p, A, cap, l, rfl, hc, hL, Nat.le_refl _, hA, rfl⟩
set_option maxHeartbeats 1000000 in
theorem few_any (p : Bool) (A : Option Addr) (n c : Nat) (w : World) (hn : n ≤ 9223372036854775807) :
    Calls Try.prog 11 #[.agg #[.bool p, .slice A n c]] w fun e w' => e = .returned (.bool (decide (n ≤ 40))) ∧ Below w.heap.size w w' := by
  go_enter Try.func11, Try.ntmps11; (try simp only [List.append_eq, List.cons_append, List.nil_append])
  go_wp2_with fail
  go_ret
  refine ⟨ret_bool ?_, ?_⟩
  · first | rfl | (simp; done) | (apply decide_eq_decide.2; omega)
  · ((with_reducible (repeat (first | exact bR _ _ | refine bS ?_ ?_ _ | refine bA ?_ ?_ _ | refine bD ?_ | refine bT ?_ (by assumption) ?_ | refine bO (by assumption) ?_ ?_))) <;> (first | omega | (simp; done) | (simp <;> omega)))
set_option maxHeartbeats 1000000 in
theorem plain_any (p : Bool) (A : Option Addr) (n c : Nat) (er : Int) (ok : Bool) (w : World) :
    Calls Try.prog 29 #[.agg #[.bool p, .slice A n c], .int .i64 er, .bool ok] w fun e w' => e = .returned (.tuple #[.agg #[.bool p, .slice A n c], .bool (ok && er == 0)]) ∧ Below w.heap.size w w' := by
  cases ok
  · go_enter Try.func29, Try.ntmps29; (try simp only [List.append_eq, List.cons_append, List.nil_append])
    go_wp2_with fail
    refine bodyPost_ret (v := .tuple #[.agg #[.bool p, .slice A n c], .bool false]) (by simp only [results, Try.results29]; go_simp) rfl ⟨?_, ?_⟩
    · rfl
    · ((with_reducible (repeat (first | exact bR _ _ | refine bS ?_ ?_ _ | refine bA ?_ ?_ _ | refine bD ?_ | refine bT ?_ (by assumption) ?_ | refine bO (by assumption) ?_ ?_))) <;> (first | omega | (simp; done) | (simp <;> omega)))
  · go_enter Try.func29, Try.ntmps29; (try simp only [List.append_eq, List.cons_append, List.nil_append])
    go_wp2_with fail
    refine bodyPost_ret (v := .tuple #[.agg #[.bool p, .slice A n c], .bool (er == 0)]) (by simp only [results, Try.results29]; go_simp) rfl ⟨?_, ?_⟩
    · rfl
    · ((with_reducible (repeat (first | exact bR _ _ | refine bS ?_ ?_ _ | refine bA ?_ ?_ _ | refine bD ?_ | refine bT ?_ (by assumption) ?_ | refine bO (by assumption) ?_ ?_))) <;> (first | omega | (simp; done) | (simp <;> omega)))
end Go.Proofs.Ytadkcipjcmkoiaa
