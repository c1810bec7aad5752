/- The sanity check of law 7. -/
import Derived.Test.YtadbffgaeobbhaaScanS
import Derived.Test.YtadbffgaeobbhaaScanN
namespace Go.Proofs.Ytadbffgaeobbhaa
open Go.RowKit
set_option linter.unusedVariables false
theorem lit1 : (scanR ⟨#[112, 111, 115, 116, 32, 112, 49, 32, 115, 105, 122, 101, 32, 45, 53, 59]⟩).2.1 = 0 ∧ (scanR ⟨#[112, 111, 115, 116, 32, 112, 49, 32, 115, 105, 122, 101, 32, 45, 53, 59]⟩).1.length = 5 ∧
    ((scanR ⟨#[112, 111, 115, 116, 32, 112, 49, 32, 115, 105, 122, 101, 32, 45, 53, 59]⟩).1[3]?).map (·.num) = some (-5) ∧ ((scanR ⟨#[112, 111, 115, 116, 32, 112, 49, 32, 115, 105, 122, 101, 32, 45, 53, 59]⟩).1[4]?).map (·.kind) = some 3 := by decide +kernel
theorem lit2 : (scanR ⟨#[53, 97]⟩).2.1 = 4 ∧ (scanR ⟨#[53, 97]⟩).2.2 = 1 := by decide +kernel
theorem lit3 : (scanR ⟨#[45, 32, 53]⟩).2.1 = 4 ∧ (scanR ⟨#[45, 32, 53]⟩).2.2 = 0 := by decide +kernel
theorem lit4 : nameB ⟨#[97, 57]⟩ = true := by decide +kernel
set_option maxHeartbeats 1000000 in
theorem awake07_any (w : World) : Calls Try.prog 8 #[] w fun e w' => e = .returned (.bool true) ∧ Below w.heap.size w w' := by
  go_enter Try.func8, Try.ntmps8; (try simp only [List.append_eq, List.cons_append, List.nil_append])
  go_wp2_with fail
  (go_at_call 9; refine (words_any _ _ (by decide)).mono ?_; rintro e w1 ⟨hb1, v1, rfl, hv1⟩)
  obtain ⟨l1, l2, l3, l4⟩ := lit1
  rw [l2] at hv1
  rcases own_form hv1 with ⟨hn, _⟩ | ⟨_, g, c, rfl, hg, _⟩
  · omega
  rw [l1]
  obtain ⟨x3, hx3, hx3'⟩ := Option.map_eq_some_iff.1 l3
  obtain ⟨x4, hx4, hx4'⟩ := Option.map_eq_some_iff.1 l4
  have a3 := (word_cells hv1 hx3 (by omega)).2.2.1
  have a4 := (word_cells hv1 hx4 (by omega)).1
  rw [hx3'] at a3
  rw [hx4'] at a4
  clear hv1 l1 l2 l3 l4 hx3 hx4 hx3' hx4'
  go_wp2_with fail
  (go_at_call 9; refine (words_any _ _ (by decide)).mono ?_; rintro e w2 ⟨hb2, v2, rfl, _⟩)
  rw [lit2.1, lit2.2]
  go_wp2_with fail
  (go_at_call 9; refine (words_any _ _ (by decide)).mono ?_; rintro e w3 ⟨hb3, v3, rfl, _⟩)
  rw [lit3.1, lit3.2]
  have z2 := hb2.size
  have z3 := hb3.size
  rw [← hb2.cell (by simpa using hg), ← hb3.cell (by simp; omega)] at a3 a4
  simp only [Nat.reduceMul, Nat.reduceAdd] at a3 a4
  go_wp2_with fail
  (go_at_call 12; refine (name_any _ _ (by decide)).mono ?_; rintro e w4 ⟨rfl, hb4⟩)
  rw [lit4]
  go_wp2_with fail
  go_ret
  refine ⟨rfl, ?_⟩
  (repeat (first | (with_reducible exact Below.refl _ _) | (with_reducible refine Below.setCell ?_ ?_ _) | (with_reducible refine Below.alloc ?_ ?_ _) | (with_reducible refine Below.drew ?_) | (with_reducible refine Below.trans ?_ (Below.mono (by assumption) ?_)) | (with_reducible refine Own.below (by assumption) ?_ ?_))) <;> (first | omega | (simp; done) | (simp <;> omega))
end Go.Proofs.Ytadbffgaeobbhaa
