/- Plain: the errors of the parser are not 0. -/
import Derived.Test.YteondblmcooklaaDoorSrcP
namespace Go.Proofs.YteondblmcooklaaDoor
open Go
set_option linter.unusedVariables false
theorem numsF_err {e : Nat} : ∀ (n : Nat) (vs : List Int) (l : List WV) {a : Int} {b : Nat}, numsF e n vs l = .err a b → a = 4
  | 0, vs, l, a, b, h => by simp [numsF] at h
  | n + 1, vs, [], a, b, h => by simp [numsF] at h <;> omega
  | n + 1, vs, x :: l, a, b, h => by
    simp only [numsF] at h
    split at h
    · exact numsF_err n _ _ h
    · simp at h <;> omega
theorem keysF_err {e : Nat} {word : ByteArray} : ∀ (f : Nat) (acc : List KV) (l : List WV) {a : Int} {b : Nat}, keysF e word f acc l = .err a b → a ≠ 0
  | 0, acc, l, a, b, h => by simp [keysF] at h <;> omega
  | f + 1, acc, [], a, b, h => by simp [keysF] at h <;> omega
  | f + 1, acc, x :: l, a, b, h => by
    simp only [keysF] at h
    split at h
    · simp at h
    · split at h
      · simp at h <;> omega
      · split at h
        · simp at h <;> omega
        · split at h
          · simp at h <;> omega
          · split at h
            · rename_i h1; have := numsF_err _ _ _ h1; simp at h <;> omega
            · exact keysF_err f _ _ h
theorem itemF_err {e : Nat} {l : List WV} {a : Int} {b : Nat} (h : itemF e l = .err a b) : a ≠ 0 := by
  have key : ∀ {w n : ByteArray} {p : Nat} {l : List WV}, restF e w n p l = .err a b → a ≠ 0 := by
    intro w n p l h
    unfold restF at h
    split at h
    · rename_i h1; simp at h; have := keysF_err _ _ _ h1; omega
    · simp at h
  cases l with
  | nil => simp [itemF] at h <;> omega
  | cons x l =>
    simp only [itemF] at h
    split at h
    · simp at h <;> omega
    · split at h
      · simp at h <;> omega
      · split at h
        · exact key h
        · cases l with
          | nil => simp at h <;> omega
          | cons y l =>
            simp only at h
            split at h
            · simp at h <;> omega
            · exact key h
end Go.Proofs.YteondblmcooklaaDoor
