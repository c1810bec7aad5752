/- Merged texts: Aw9w. -/
import Derived.Test.YtbpcjpiaimdpnaaGreatDoorCk9
set_option linter.unusedSimpArgs false
set_option linter.unusedVariables false
namespace Go.Proofs.YtbpcjpiaimdpnaaGreatDoor
open Go Go.RowKit
set_option linter.unusedVariables false
def awS1 : ByteArray := ⟨#[116, 97, 98, 108, 101, 32, 114, 97, 100, 105, 117, 115, 32, 49, 48, 48, 32, 98, 97, 108, 108, 115, 32, 50, 32, 116, 114, 111, 117, 103, 104, 32, 53, 59, 32, 119, 97, 108, 108, 32, 119, 32, 102, 114, 111, 109, 32, 48, 32, 48, 32, 116, 111, 32, 57, 48, 48, 32, 48, 59]⟩
def awS2 : ByteArray := ⟨#[119, 97, 108, 108, 32, 119, 32, 102, 114, 111, 109, 32, 48, 32, 48, 32, 116, 111, 32, 57, 48, 48, 32, 48, 59]⟩
def awT : Tb := ⟨100, 2, 8, 0, 0, 0, 0, [5, 6], [⟨⟨#[119]⟩, 1, 0, 0, 0, 900, 0, 8, 0, 0, 0, -1, -1⟩], [], [], [], [], [], [], [], [], []⟩
set_option maxRecDepth 100000 in
theorem aw_c1 : compileR awS1 = (awT, 0, 0) := by kernel_rfl
set_option maxRecDepth 100000 in
theorem aw_c2 : (compileR awS2).2 = (8, 25) := by kernel_rfl
set_option maxRecDepth 100000 in
theorem aw_t : (textR awT).2 = true := by kernel_rfl
set_option maxRecDepth 100000 in
theorem aw_sz : (textR awT).1.size ≤ 1000 := of_decide_eq_true (by kernel_rfl)
set_option maxRecDepth 100000 in
theorem aw_k : checkR awT = 0 := by kernel_rfl
theorem aw_m : sameR awT (mirrorR awT) = false := by kernel_rfl
theorem aw_s : sameR awT awT = true := sameR_iff.2 rfl
set_option maxRecDepth 100000 in
theorem aw_len : (textB awT.items).length ≤ 1000000000 := of_decide_eq_true (by kernel_rfl)
theorem aw_ok : ∀ x ∈ awT.items, okF x := by
 have h : awT.items = [itTb awT, itWl ⟨⟨#[119]⟩, 1, 0, 0, 0, 900, 0, 8, 0, 0, 0, -1, -1⟩] := rfl
 rw [h]
 intro x hx
 simp only [List.mem_cons, List.not_mem_nil, or_false] at hx
 rcases hx with rfl | rfl
 · refine ⟨⟨by decide, ?_⟩, ?_⟩ <;> decide
 · refine ⟨⟨by decide, ?_⟩, ?_⟩ <;> decide
theorem aw_le (n : Nat) (h : 2 ≤ n) : awT.le n := ⟨by show 2 ≤ 7 * n; omega, by show 1 ≤ n; omega, Nat.zero_le _, Nat.zero_le _, Nat.zero_le _, Nat.zero_le _, Nat.zero_le _, Nat.zero_le _, Nat.zero_le _, Nat.zero_le _, Nat.zero_le _⟩
theorem mild_of {x : Int} (h : decide (-2305843009213693952 ≤ x ∧ x ≤ 2305843009213693952) = true) : mild x := by
 unfold mild
 exact of_decide_eq_true h
theorem aw_mild : awT.mild := by
 refine ⟨?_, ?_, ?_, ?_, ?_, ?_, ?_, ?_, ?_, ?_⟩
 · intro x hx
   have h : x = ⟨⟨#[119]⟩, 1, 0, 0, 0, 900, 0, 8, 0, 0, 0, -1, -1⟩ := List.mem_singleton.1 hx
   rw [h]
   exact ⟨mild_of rfl, mild_of rfl, mild_of rfl, mild_of rfl⟩
 all_goals (intro x hx; cases hx)
theorem aw_soft : softT awT := ⟨mild_of rfl, mild_of rfl, fun x hx => (by cases hx), fun x hx => (by cases hx), fun x hx => (by cases hx), fun x hx => (by cases hx)⟩
theorem aw_small : TbSmall awT := tsmall_of (n := 2) ⟨by decide, fun x hx => (by cases hx), fun x hx => (by cases hx), fun x hx => (by cases hx), fun x hx => (by cases hx), fun x hx => (by cases hx), fun x hx => (by cases hx), fun x hx => (by cases hx), fun x hx => (by cases hx), fun x hx => (by cases hx)⟩ (aw_le 2 (by decide)) (by decide)
theorem aw_o9 : awT.only9 := ⟨Nat.le_refl _, Nat.le_refl _, Nat.le_refl _, Nat.le_refl _, Nat.le_refl _, Nat.le_refl _, Nat.le_refl _, Nat.le_refl _, Nat.le_refl _⟩
theorem aw_m9 : (mirrorR awT).only9 := ⟨Nat.le_refl _, Nat.le_refl _, Nat.le_refl _, Nat.le_refl _, Nat.le_refl _, Nat.le_refl _, Nat.le_refl _, Nat.le_refl _, Nat.le_refl _⟩
def wordsB (s : ByteArray) : Bool := (parseR s).1.all fun x => decide (x.word = t_table ∨ x.word = t_wall)
theorem words_of {s : ByteArray} (h : wordsB s = true) : ∀ x ∈ (parseR s).1, x.word = t_table ∨ x.word = t_wall := fun x hx => of_decide_eq_true (List.all_eq_true.1 h x hx)
set_option maxRecDepth 100000 in
theorem aw_w1 : wordsB awS1 = true := by kernel_rfl
set_option maxRecDepth 100000 in
theorem aw_w2 : wordsB awS2 = true := by kernel_rfl
set_option maxRecDepth 100000 in
theorem aw_w3 : wordsB (textR awT).1 = true := by kernel_rfl
set_option maxRecDepth 100000 in
theorem aw_w4 : wordsB (fmtR awT.items).1 = true := by kernel_rfl
end Go.Proofs.YtbpcjpiaimdpnaaGreatDoor
