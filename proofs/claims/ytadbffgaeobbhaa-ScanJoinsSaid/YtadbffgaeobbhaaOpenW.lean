/- A list of words that came in, opened. -/
import Derived.Test.YtadbffgaeobbhaaOpen
import Derived.Test.YtadbffgaeobbhaaScanJ
namespace Go.Proofs.Ytadbffgaeobbhaa
open Go
theorem cells_int : Try.prog.cellsOf 3 = 1 := by kernel_rfl
theorem cells_string : Try.prog.cellsOf 9 = 1 := by kernel_rfl
theorem cells_word : Try.prog.cellsOf 33 = 4 := by kernel_rfl
theorem row_word {w : World} {n : Nat} {cs : List Value} (h : RowIs Try.prog w n 33 cs) : ∃ x : WI, cs = [.int .i64 x.kind, .string x.text, .int .i64 x.num, .int .i64 x.at_] ∧ x.text.size ≤ maxLen := by
  obtain ⟨hl, m, hf⟩ := rowIs_struct Try.underlying33 h
  rw [cells_word] at hl
  obtain ⟨c0, c1, c2, c3, rfl⟩ := len4 hl
  obtain ⟨h0, h1, h2, h3⟩ := all4 hf
  simp only [cells_int, cells_string, List.drop_zero, List.drop_succ_cons, List.take_succ_cons, List.take_zero] at h0 h1 h2 h3
  obtain ⟨k, hk, wk⟩ := rowIs_int Try.underlying3 h0
  obtain ⟨s, hs, ws⟩ := rowIs_string Try.underlying9 h1
  obtain ⟨n, hn, wn⟩ := rowIs_int Try.underlying3 h2
  obtain ⟨a, ha, wa⟩ := rowIs_int Try.underlying3 h3
  simp only [List.cons.injEq, and_true] at hk hs hn ha
  exact ⟨⟨k, s, n, a⟩, by rw [hk, hs, hn, ha], ws⟩
theorem ws_open {w : World} {n : Nat} {A : Option Addr} {len cap : Nat} (h : RowIs Try.prog w n 23 [.slice A len cap]) :
    len = 0 ∨ (len ≤ maxLen ∧ ∃ g o, A = some ⟨g, o, none⟩ ∧ g < w.heap.size ∧ ∃ l : List WI, l.length = len ∧ WsAt w g o l ∧ ∀ x ∈ l, x.text.size ≤ maxLen) := by
  rcases rowIs_slice Try.underlying23 h with h0 | ⟨a, len', cap', m, hcs, hlc, hcap, hrows⟩
  · simp only [List.cons.injEq, Value.slice.injEq, and_true] at h0
    exact .inl h0.2.1
  · simp only [List.cons.injEq, Value.slice.injEq, and_true] at hcs
    obtain ⟨rfl, rfl, rfl⟩ := hcs
    rcases Nat.eq_zero_or_pos len with h0 | h0
    · exact .inl h0
    · refine .inr ⟨by omega, ?_⟩
      have hr : ∀ i, i < len → ∃ x : WI, x.text.size ≤ maxLen ∧ ∀ j v, [Value.int .i64 x.kind, .string x.text, .int .i64 x.num, .int .i64 x.at_][j]? = some v → w.cell? (a.add (i * 4 + j)) = some v := by
        intro i hi
        obtain ⟨row, hl, hc, hrow⟩ := hrows i hi
        obtain ⟨x, rfl, hs⟩ := row_word hrow
        rw [cells_word] at hc
        exact ⟨x, hs, hc⟩
      have h00 := hr 0 h0
      obtain ⟨x0, _, hx0⟩ := h00
      have hc0 := hx0 0 _ rfl
      obtain ⟨g, o, spot⟩ := a
      have hsp : spot = none := by simpa [Addr.add] using World.cell?_spot hc0
      subst hsp
      refine ⟨g, o, rfl, ?_, ?_⟩
      · have := World.block_lt_of_cell? w _ hc0
        simpa [Addr.add] using this
      · clear hc0 hx0
        have build : ∀ m, m ≤ len → ∃ l : List WI, l.length = m ∧ (∀ k x, l[k]? = some x → x.text.size ≤ maxLen ∧ ∀ j v, [Value.int .i64 x.kind, .string x.text, .int .i64 x.num, .int .i64 x.at_][j]? = some v → w.cell? ((⟨g, o, none⟩ : Addr).add (k * 4 + j)) = some v) := by
          intro m
          induction m with
          | zero => intro _; exact ⟨[], rfl, fun k x h => by simp at h⟩
          | succ m ih =>
            intro hm
            obtain ⟨l, hl, hp⟩ := ih (by omega)
            obtain ⟨x, hx⟩ := hr m (by omega)
            refine ⟨l ++ [x], by simp [hl], fun k y hk => ?_⟩
            rcases Nat.lt_or_ge k l.length with h | h
            · rw [List.getElem?_append_left h] at hk; exact hp k y hk
            · rw [List.getElem?_append_right h] at hk
              have hk0 : k = m := by
                have := (List.getElem?_eq_some_iff.1 hk).1
                simp at this; omega
              subst hk0
              rw [hl, Nat.sub_self] at hk
              simp only [List.getElem?_cons_zero, Option.some.injEq] at hk
              subst hk
              exact hx
        obtain ⟨l, hl, hp⟩ := build len (Nat.le_refl _)
        have hadd : ∀ j, (⟨g, o, none⟩ : Addr).add j = ⟨g, o + j, none⟩ := by intro j; unfold Addr.add; split <;> simp_all
        refine ⟨l, hl, fun k x hx => ?_, fun x hx => ?_⟩
        · have := (hp k x hx).2
          refine ⟨?_, ?_, ?_, ?_⟩
          · have := this 0 _ rfl; rwa [hadd, Nat.add_zero] at this
          · have := this 1 _ rfl; rwa [hadd, ← Nat.add_assoc] at this
          · have := this 2 _ rfl; rwa [hadd, ← Nat.add_assoc] at this
          · have := this 3 _ rfl; rwa [hadd, ← Nat.add_assoc] at this
        · obtain ⟨k, hk⟩ := List.getElem?_of_mem hx
          exact (hp k x hk).1
end Go.Proofs.Ytadbffgaeobbhaa
