/- A list of vectors that came in, opened. -/
import Derived.Test.YtklkhnhieihfoaaOpenV
import Derived.Test.YtklkhnhieihfoaaSafeW
namespace Go.Proofs.Ytklkhnhieihfoaa
open Go
theorem vs_open {w : World} {n : Nat} {A : Option Addr} {len cap : Nat} (h : RowIs Try.prog w n 30 [.slice A len cap]) :
    len ≤ maxLen ∧ ∃ l : List V2, l.length = len ∧ VAt w A l ∧ ∀ x ∈ l, Bd x.1 ∧ Bd x.2 := by
  have none0 : len = 0 → len ≤ maxLen ∧ ∃ l : List V2, l.length = len ∧ VAt w A l ∧ ∀ x ∈ l, Bd x.1 ∧ Bd x.2 := fun h0 => by
    subst h0
    exact ⟨by unfold maxLen; omega, [], rfl, VAt.nil _ _, by simp⟩
  rcases rowIs_slice Try.underlying30 h with h0 | ⟨a, len', cap', m, hcs, hlc, hcap, hrows⟩
  · simp only [List.cons.injEq, Value.slice.injEq, and_true] at h0
    exact none0 h0.2.1
  · simp only [List.cons.injEq, Value.slice.injEq, and_true] at hcs
    obtain ⟨rfl, rfl, rfl⟩ := hcs
    rcases Nat.eq_zero_or_pos len with h0 | h0
    · exact none0 h0
    · refine ⟨by omega, ?_⟩
      have hr : ∀ i, i < len → ∃ x : V2, (Bd x.1 ∧ Bd x.2) ∧ ∀ j v, [Value.int .i64 x.1, .int .i64 x.2][j]? = some v → w.cell? (a.add (i * 2 + j)) = some v := by
        intro i hi
        obtain ⟨row, hl, hc, hrow⟩ := hrows i hi
        obtain ⟨x, y, rfl, hs⟩ := row_vec hrow
        rw [cells_vec] at hc
        exact ⟨(x, y), hs, hc⟩
      obtain ⟨x0, _, hx0⟩ := hr 0 h0
      have hc0 := hx0 0 _ rfl
      obtain ⟨g, o, spot⟩ := a
      have hsp : spot = none := by simpa [Addr.add] using World.cell?_spot hc0
      subst hsp
      have hg : g < w.heap.size := by
        have := World.block_lt_of_cell? w _ hc0
        simpa [Addr.add] using this
      clear hc0 hx0
      have build : ∀ m, m ≤ len → ∃ l : List V2, l.length = m ∧ (∀ k x, l[k]? = some x → (Bd x.1 ∧ Bd x.2) ∧ ∀ j v, [Value.int .i64 x.1, .int .i64 x.2][j]? = some v → w.cell? ((⟨g, o, none⟩ : Addr).add (k * 2 + j)) = some v) := by
        intro m
        induction m with
        | zero => intro _; exact ⟨[], rfl, fun k x h => by simp at h⟩
        | succ m ih =>
          intro hm
          obtain ⟨l, hl, hp⟩ := ih (by omega)
          obtain ⟨x, hx⟩ := hr m (by omega)
          refine ⟨l ++ [x], by simp [hl], fun k y hk => ?_⟩
          rcases Nat.lt_or_ge k l.length with h | h
          · rw [List.getElem?_append_left h] at hk; exact hp k y hk
          · rw [List.getElem?_append_right h] at hk
            have hk0 : k = m := by
              have := (List.getElem?_eq_some_iff.1 hk).1
              simp at this; omega
            subst hk0
            rw [hl, Nat.sub_self] at hk
            simp only [List.getElem?_cons_zero, Option.some.injEq] at hk
            subst hk
            exact hx
      obtain ⟨l, hl, hp⟩ := build len (Nat.le_refl _)
      have hadd : ∀ j, (⟨g, o, none⟩ : Addr).add j = ⟨g, o + j, none⟩ := by intro j; unfold Addr.add; split <;> simp_all
      refine ⟨l, hl, fun k x hx => ⟨g, o, rfl, hg, ?_, ?_⟩, fun x hx => ?_⟩
      · have := (hp k x hx).2 0 _ rfl; rwa [hadd, Nat.add_zero] at this
      · have := (hp k x hx).2 1 _ rfl; rwa [hadd, ← Nat.add_assoc] at this
      · obtain ⟨k, hk⟩ := List.getElem?_of_mem hx
        exact (hp k x hk).1
end Go.Proofs.Ytklkhnhieihfoaa
