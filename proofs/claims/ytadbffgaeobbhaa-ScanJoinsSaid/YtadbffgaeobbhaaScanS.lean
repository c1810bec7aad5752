/- The contract of the law's own comparison of words. -/
import Derived.Test.YtadbffgaeobbhaaScanL
import Derived.RegionTactic
import Derived.ChangeAlike
namespace Go.Proofs.Ytadbffgaeobbhaa
open Go.RowKit
set_option linter.unusedVariables false
theorem flatW_get {l : List WV} {k j : Nat} {x : WV} (h : l[k]? = some x) (hj : j < 4) : (flatW l)[k * 4 + j]? = (cellsOfW x)[j]? := by
  induction l generalizing k with
  | nil => simp at h
  | cons y l ih =>
    simp only [flatW, List.flatMap_cons]
    cases k with
    | zero =>
      simp only [List.getElem?_cons_zero, Option.some.injEq] at h
      subst h
      rw [List.getElem?_append_left (by simp [cellsOfW]; omega)]
      simp
    | succ k =>
      simp only [List.getElem?_cons_succ] at h
      rw [List.getElem?_append_right (by simp [cellsOfW]; omega)]
      have := ih h
      simp only [flatW] at this
      rw [← this]
      congr 1
      simp [cellsOfW]; omega
/-- The cells of word k in a block of words. -/
theorem word_cells {w : World} {base : Nat} {e : TypeId} {n cap g : Nat} {l : List WV} (h : w.ownsRow base e 4 (.slice (some ⟨g, 0, none⟩) n cap) n (flatW l)) {k : Nat} {x : WV} (hx : l[k]? = some x) (hk : k < n) :
    w.cell? ⟨g, k * 4, none⟩ = some (.int .i64 x.kind) ∧ w.cell? ⟨g, k * 4 + 1, none⟩ = some (.string x.text) ∧ w.cell? ⟨g, k * 4 + 2, none⟩ = some (.int .i64 x.num) ∧ w.cell? ⟨g, k * 4 + 3, none⟩ = some (.int .i64 x.at_) := by
  refine ⟨?_, ?_, ?_, ?_⟩
  · rw [h.cellAt (k * 4) (by omega)]; exact flatW_get (j := 0) hx (by omega)
  · rw [h.cellAt (k * 4 + 1) (by omega)]; exact flatW_get hx (by omega)
  · rw [h.cellAt (k * 4 + 2) (by omega)]; exact flatW_get hx (by omega)
  · rw [h.cellAt (k * 4 + 3) (by omega)]; exact flatW_get hx (by omega)
set_option maxRecDepth 100000 in
set_option maxHeartbeats 1000000 in
theorem same_some (l : List WV) (g1 g2 c1 c2 b1 b2 : Nat) (w : World) (hn : 0 < l.length) (hl : l.length ≤ 20000) (h1 : w.ownsRow b1 33 4 (.slice (some ⟨g1, 0, none⟩) l.length c1) l.length (flatW l)) (h2 : w.ownsRow b2 35 4 (.slice (some ⟨g2, 0, none⟩) l.length c2) l.length (flatW l)) (k1 : g1 < w.heap.size) (k2 : g2 < w.heap.size) :
    Calls Try.prog 11 #[.slice (some ⟨g1, 0, none⟩) l.length c1, .slice (some ⟨g2, 0, none⟩) l.length c2] w fun e w' => e = .returned (.bool true) ∧ Below w.heap.size w w' := by
  have HE := Lib.hid h1
  have HF := Lib.hid h2
  clear h1 h2
  go_enter Try.func11, Try.ntmps11; (try simp only [List.append_eq, List.cons_append, List.nil_append])
  go_wp2_with fail
  go_loopw [5] (fun t wr => ∃ k : Nat, k ≤ l.length ∧ t = .int .i64 k ∧ Below w.heap.size w wr) (fun t _ => l.length - (intOf t).toNat)
  case atStart => exact ⟨0, by omega, rfl, Below.refl _ _⟩
  case round =>
    obtain ⟨k, hk, rfl, hb⟩ := hrel
    by_cases hlt : k < l.length
    · obtain ⟨x, hx⟩ : ∃ x, l[k]? = some x := ⟨l[k], by simp⟩
      obtain ⟨a0, a1, a2, a3⟩ := word_cells HE.out hx hlt
      obtain ⟨d0, d1, d2, d3⟩ := word_cells HF.out hx hlt
      rw [← hb.cell (by simpa using k1)] at a0 a1 a2 a3
      rw [← hb.cell (by simpa using k2)] at d0 d1 d2 d3
      have hz := hb.size
      have HB := Lib.hid hb
      have l1 : g1 < wr.heap.size ∧ g1 < wr.heap.size + 1 ∧ g1 < wr.heap.size + 1 + 1 := by omega
      have l2 : g2 < wr.heap.size ∧ g2 < wr.heap.size + 1 ∧ g2 < wr.heap.size + 1 + 1 := by omega
      clear hx hb
      have i1 : (0 : Int) ≤ (k : Int) := by omega
      have i2 : (k : Int) < (l.length : Int) := by omega
      go_wp2_with fail
      go_region
      all_goals
        go_wp2_with fail
        go_roundw
        case rel => exact ⟨k + 1, by omega, by go_num, by have hb := HB.out; (repeat (first | (with_reducible exact Below.refl _ _) | (with_reducible refine Below.setCell ?_ ?_ _) | (with_reducible refine Below.alloc ?_ ?_ _) | (with_reducible refine Below.drew ?_) | (with_reducible refine Below.trans ?_ (Below.mono (by assumption) ?_)) | (with_reducible refine Own.below (by assumption) ?_ ?_))) <;> (first | omega | (simp; done) | (simp <;> omega))⟩
        case measure => simp [intOf]; omega
    · obtain rfl : k = l.length := by omega
      have HB := Lib.hid hb
      clear hb
      go_wp2_with fail
      go_ret
      exact ⟨rfl, HB.out⟩
set_option maxHeartbeats 400000 in
theorem same_none (A1 A2 : Option Addr) (c1 c2 : Nat) (w : World) :
    Calls Try.prog 11 #[.slice A1 0 c1, .slice A2 0 c2] w fun e w' => e = .returned (.bool true) ∧ Below w.heap.size w w' := by
  go_enter Try.func11, Try.ntmps11; (try simp only [List.append_eq, List.cons_append, List.nil_append])
  go_wp2_with fail
  refine wp_loop_rounds 1 ?_
  rw [rounds_succ]
  go_wp2_with fail
  go_ret
  exact ⟨rfl, Below.refl _ _⟩
theorem own_form {w : World} {base : Nat} {e : TypeId} {n : Nat} {v : Value} {xs : List Value} (h : w.ownsRow base e 4 v n xs) : (n = 0 ∧ ∃ A c, v = .slice A 0 c) ∨ (0 < n ∧ ∃ g c, v = .slice (some ⟨g, 0, none⟩) n c ∧ g < w.heap.size ∧ base ≤ g) := by
  rcases Nat.eq_zero_or_pos n with h0 | h0
  · subst h0
    rcases h.2 with ⟨hv, _⟩ | ⟨g, cap, cur, hv, _⟩
    · exact .inl ⟨rfl, none, 0, hv⟩
    · exact .inl ⟨rfl, _, _, hv⟩
  · rcases h.2 with ⟨_, hn⟩ | ⟨g, cap, cur, hv, hb, hh, _⟩
    · omega
    · refine .inr ⟨h0, g, cap, hv, ?_, hb⟩
      rcases Nat.lt_or_ge g w.heap.size with h | h
      · exact h
      · rw [Array.getElem?_eq_none h] at hh; cases hh
theorem same_any (l : List WV) (v1 v2 : Value) (b1 b2 : Nat) (w : World) (hl : l.length ≤ 20000) (h1 : w.ownsRow b1 33 4 v1 l.length (flatW l)) (h2 : w.ownsRow b2 35 4 v2 l.length (flatW l)) :
    Calls Try.prog 11 #[v1, v2] w fun e w' => e = .returned (.bool true) ∧ Below w.heap.size w w' := by
  rcases own_form h1 with ⟨hn, A1, c1, rfl⟩ | ⟨hn, g1, c1, rfl, k1, _⟩
  · rcases own_form h2 with ⟨_, A2, c2, rfl⟩ | ⟨hn', _⟩
    · exact same_none A1 A2 c1 c2 w
    · omega
  · rcases own_form h2 with ⟨hn', _⟩ | ⟨_, g2, c2, rfl, k2, _⟩
    · omega
    · exact same_some l g1 g2 c1 c2 b1 b2 w hn hl h1 h2 k1 k2
end Go.Proofs.Ytadbffgaeobbhaa
