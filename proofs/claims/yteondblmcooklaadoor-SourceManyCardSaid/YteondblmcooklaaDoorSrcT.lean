/- The law SourceMany, plain: a text of k drains; the beginnings of a statement. -/
import Derived.Test.YteondblmcooklaaDoorSrcS
import Derived.Test.YteondblmcooklaaDoorSrcV
namespace Go.Proofs.YteondblmcooklaaDoor
open Go
set_option linter.unusedVariables false
def drainB : ByteArray := ⟨#[100, 114, 97, 105, 110]⟩
def dB : ByteArray := ⟨#[100]⟩
def semB : ByteArray := ⟨#[59]⟩
def nilB : ByteArray := ⟨#[]⟩
def spB : ByteArray := ⟨#[32]⟩
def rep : Nat → List Tk
  | 0 => []
  | k + 1 => ⟨1, drainB, 0, spB⟩ :: ⟨1, dB, 0, nilB⟩ :: ⟨3, semB, 0, nilB⟩ :: rep k
def dL : List UInt8 := [100, 114, 97, 105, 110, 32, 100, 59]
def textD : Nat → List UInt8
  | 0 => []
  | k + 1 => dL ++ textD k
theorem textD_len : ∀ k, (textD k).length = 8 * k
  | 0 => rfl
  | k + 1 => by unfold textD; rw [List.length_append, textD_len k]; show 8 + _ = _; omega
theorem textD_snoc : ∀ k, textD (k + 1) = textD k ++ dL
  | 0 => by simp [textD]
  | k + 1 => by
    show dL ++ textD (k + 1) = (dL ++ textD k) ++ dL
    rw [textD_snoc k, List.append_assoc]
theorem cat_rep : ∀ k, catT (rep k) = ⟨(textD k).toArray⟩
  | 0 => rfl
  | k + 1 => by
    show drainB ++ (spB ++ (dB ++ (nilB ++ (semB ++ (nilB ++ catT (rep k)))))) = _
    rw [cat_rep k]
    apply ByteArray.ext
    simp only [ByteArray.data_append]
    apply Array.ext'
    simp only [Array.toList_append]
    rfl
theorem isA_drain : IsA 1 drainB 0 := isA_of (s := drainB) (i := 0) (nx := 5) (by decide) (by kernel_rfl) (by decide) (by decide)
theorem isA_d : IsA 1 dB 0 := isA_of (s := dB) (i := 0) (nx := 1) (by decide) (by kernel_rfl) (by decide) (by decide)
theorem isA_sem : IsA 3 semB 0 := isA_of (s := semB) (i := 0) (nx := 1) (by decide) (by kernel_rfl) (by decide) (by decide)
theorem ok_rep : ∀ k, OkT (rep k)
  | 0 => trivial
  | k + 1 => by
    refine ⟨isA_drain, .inr ⟨rfl, .inl (by decide)⟩, .inr (.inr ?_), isA_d, .inl rfl, .inr (.inr ?_), isA_sem, .inl rfl, .inl rfl, ok_rep k⟩
    · rw [cOf_app_left _ _ (by decide)]; exact .inl (by decide)
    · show stopC (cOf (nilB ++ (semB ++ (nilB ++ catT (rep k)))) 0)
      rw [show nilB ++ (semB ++ (nilB ++ catT (rep k))) = semB ++ (nilB ++ catT (rep k)) from nil_app _, cOf_app_left _ _ (by decide)]
      exact .inr (.inr (by decide))
theorem drain_word : isWord drainB = true := by kernel_rfl
theorem drain_table : ¬ drainB = tTable := by decide
theorem item_rep (e k i : Nat) : itemF e (put i (rep (k + 1))) = .ok ⟨drainB, dB, [], i⟩ (put (i + 8) (rep k)) := by
  show itemF e (⟨1, drainB, 0, i⟩ :: ⟨1, dB, 0, i + 5 + 1⟩ :: ⟨3, semB, 0, i + 5 + 1 + 1 + 0⟩ :: put (i + 5 + 1 + 1 + 0 + 1 + 0) (rep k)) = _
  simp only [itemF]
  rw [if_neg (by simp), if_neg (by simp [drain_word]), if_neg drain_table, if_neg (by simp)]
  unfold restF
  simp only [keysF, List.length_cons, if_pos]
theorem parse_rep (e : Nat) : ∀ (k f : Nat) (acc : List IV) (i : Nat), k < f → acc.length ≤ 400 →
    (acc.length + k ≤ 400 → (parseF e f acc (put i (rep k))).2.1 = 0) ∧ (400 < acc.length + k → parseF e f acc (put i (rep k)) = ([], 9, i + 8 * (400 - acc.length)))
  | 0, f, acc, i, hf, ha => by
    refine ⟨fun _ => ?_, fun h => by omega⟩
    cases f with
    | zero => omega
    | succ f => rfl
  | k + 1, f, acc, i, hf, ha => by
    cases f with
    | zero => omega
    | succ f =>
      have hi := item_rep e k i
      have hd : put i (rep (k + 1)) = ⟨1, drainB, 0, i⟩ :: put (i + 5 + 1) (⟨1, dB, 0, nilB⟩ :: ⟨3, semB, 0, nilB⟩ :: rep k) := rfl
      rw [hd] at hi ⊢
      simp only [parseF]
      by_cases h4 : acc.length = 400
      · rw [if_pos h4]
        refine ⟨fun h => by omega, fun h => ?_⟩
        rw [h4]; rfl
      · rw [if_neg h4, hi]
        obtain ⟨h1, h2⟩ := parse_rep e k f (acc ++ [⟨drainB, dB, [], i⟩]) (i + 8) (by omega) (by simp only [List.length_append, List.length_cons, List.length_nil]; omega)
        simp only [List.length_append, List.length_cons, List.length_nil] at h1 h2
        refine ⟨fun h => h1 (by omega), fun h => ?_⟩
        simp only
        rw [h2 (by omega)]
        congr 2
        omega
theorem put_len : ∀ (k i : Nat), (put i (rep k)).length = 3 * k
  | 0, i => rfl
  | k + 1, i => by
    show (put _ (rep k)).length + 1 + 1 + 1 = _
    rw [put_len k]; omega
theorem many_text (k : Nat) (hk : k ≤ 2000) : (k ≤ 400 → (parseR ⟨(textD k).toArray⟩).2.1 = 0) ∧ (400 < k → parseR ⟨(textD k).toArray⟩ = ([], 9, 3200)) := by
  have hs : (catT (rep k)).size ≤ 20000 := by rw [cat_rep]; show (textD k).toArray.size ≤ _; rw [List.size_toArray, textD_len]; omega
  have hR := scanR_toks (rep k) (ok_rep k) hs
  rw [cat_rep] at hR
  unfold parseR
  rw [hR]
  simp only
  rw [if_neg (by simp), put_len]
  obtain ⟨h1, h2⟩ := parse_rep (⟨(textD k).toArray⟩ : ByteArray).size k (3 * k + 1) [] 0 (by omega) (by simp)
  exact ⟨fun h => h1 (by simpa using h), fun h => by rw [h2 (by simpa using h)]; rfl⟩
/-- The beginnings of a statement. -/
def cutOk (c : Nat) : Bool := (parseR (exA.extract 0 c)).1.isEmpty && (if c = 0 then decide ((parseR (exA.extract 0 c)).2.1 = 0) else decide ((parseR (exA.extract 0 c)).2.1 = 4) && decide ((parseR (exA.extract 0 c)).2.2 ≤ c))
set_option maxRecDepth 100000 in
theorem cuts : ((List.range 25).all cutOk) = true := by kernel_rfl
theorem cut_text (c : Nat) (hc : c < 25) : (parseR (exA.extract 0 c)).1 = [] ∧ (c = 0 → (parseR (exA.extract 0 c)).2.1 = 0) ∧ (c ≠ 0 → (parseR (exA.extract 0 c)).2.1 = 4 ∧ (parseR (exA.extract 0 c)).2.2 ≤ c) := by
  have := (List.all_eq_true.1 cuts) c (List.mem_range.2 hc)
  unfold cutOk at this
  rw [Bool.and_eq_true] at this
  obtain ⟨h1, h2⟩ := this
  refine ⟨by simpa using h1, fun h => ?_, fun h => ?_⟩
  · rw [if_pos h] at h2; exact of_decide_eq_true h2
  · rw [if_neg h, Bool.and_eq_true] at h2
    exact ⟨of_decide_eq_true h2.1, of_decide_eq_true h2.2⟩
def plR (x n : Int) : Int := if x.tmod n < 0 then x.tmod n + n else x.tmod n
theorem plR_bd (x n : Int) (hn : 0 < n) : 0 ≤ plR x n ∧ plR x n < n := by
  have h1 := Int.tmod_lt_of_pos x hn
  have h2 : -n < x.tmod n := by
    rcases Int.le_total 0 x with h | h
    · have := Int.tmod_nonneg n h; omega
    · have e : x.tmod n = -((-x).tmod n) := by rw [Int.neg_tmod]; omega
      have := Int.tmod_lt_of_pos (-x) hn
      omega
  unfold plR
  split <;> omega
end Go.Proofs.YteondblmcooklaaDoor
