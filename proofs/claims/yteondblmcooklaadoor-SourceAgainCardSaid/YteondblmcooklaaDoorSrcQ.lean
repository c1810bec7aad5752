/- How long the statements of a text are: plain. -/
import Derived.Test.YteondblmcooklaaDoorSrcB
namespace Go.Proofs.YteondblmcooklaaDoor
open Go
set_option linter.unusedVariables false
theorem keysF_two {e : Nat} {word : ByteArray} : ∀ (f : Nat) (acc : List KV) (l : List WV) {x : List KV} {r : List WV}, (∀ k ∈ acc, k.vals.length ≤ 2) → keysF e word f acc l = .ok x r → ∀ k ∈ x, k.vals.length ≤ 2
  | 0, acc, l, x, r, ha, h => by simp only [keysF, PR.ok.injEq] at h; obtain ⟨rfl, rfl⟩ := h; exact ha
  | f + 1, acc, [], x, r, ha, h => by simp [keysF] at h
  | f + 1, acc, y :: l, x, r, ha, h => by
    simp only [keysF] at h
    split at h
    · simp only [PR.ok.injEq] at h; obtain ⟨rfl, rfl⟩ := h; exact ha
    · split at h
      · cases h
      · split at h
        · cases h
        · split at h
          · cases h
          · cases hn : numsF e (arR word y.text).toNat [] l with
            | err a b => simp only [hn] at h; cases h
            | ok vs l' =>
              simp only [hn] at h
              have h1 := (numsF_len _ _ _ hn).2
              have h2 := (arR_bd word y.text).2
              refine keysF_two f _ l' ?_ h
              intro k hk
              rcases List.mem_append.1 hk with hk | hk
              · exact ha k hk
              · rw [List.mem_singleton] at hk
                rw [hk]
                show vs.length ≤ 2
                simp only [List.length_nil] at h1
                omega
theorem restF_two {e a : Nat} {word name : ByteArray} {l : List WV} {x : IV} {r : List WV} (h : restF e word name a l = .ok x r) : x.word = word ∧ x.name = name ∧ ∀ k ∈ x.keys, k.vals.length ≤ 2 := by
  unfold restF at h
  cases hk : keysF e word (l.length + 1) [] l with
  | err c b => simp only [hk] at h; cases h
  | ok ks l' =>
    simp only [hk, PR.ok.injEq] at h
    obtain ⟨rfl, rfl⟩ := h
    exact ⟨rfl, rfl, keysF_two _ _ _ (by simp) hk⟩
theorem itemF_two {e : Nat} {l : List WV} {x : IV} {r : List WV} (h : itemF e l = .ok x r) : ∀ k ∈ x.keys, k.vals.length ≤ 2 := by
  cases l with
  | nil => cases h
  | cons y l =>
    simp only [itemF] at h
    split at h
    · cases h
    · split at h
      · cases h
      · split at h
        · exact (restF_two h).2.2
        · cases l with
          | nil => cases h
          | cons z l =>
            simp only at h
            split at h
            · cases h
            · exact (restF_two h).2.2
theorem parseF_ok {e : Nat} (P : IV → Prop) : ∀ (f : Nat) (acc : List IV) (l : List WV) (hP : ∀ (l' : List WV) (x : IV) (r : List WV), l'.length ≤ l.length → (∀ w ∈ l', w ∈ l) → itemF e l' = .ok x r → P x) (hr : ∀ (l' : List WV) (x : IV) (r : List WV), itemF e l' = .ok x r → ∀ w ∈ r, w ∈ l'), acc.length ≤ 400 → (∀ x ∈ acc, P x) → (parseF e f acc l).1.length ≤ 400 ∧ ∀ x ∈ (parseF e f acc l).1, P x
  | 0, acc, l, hP, hr, h1, h2 => ⟨h1, h2⟩
  | f + 1, acc, [], hP, hr, h1, h2 => ⟨h1, h2⟩
  | f + 1, acc, y :: l, hP, hr, h1, h2 => by
    simp only [parseF]
    split
    · exact ⟨by simp, by simp⟩
    · cases hi : itemF e (y :: l) with
      | err a b => exact ⟨by simp, by simp⟩
      | ok x r =>
        have hl := (itemF_len hi).1
        have hs := hr _ _ _ hi
        refine parseF_ok P f _ r (fun l' x' r' h3 h4 h5 => hP l' x' r' (by omega) (fun w hw => hs w (h4 w hw)) h5) hr (by simp only [List.length_append, List.length_cons, List.length_nil]; omega) ?_
        intro z hz
        rcases List.mem_append.1 hz with hz | hz
        · exact h2 z hz
        · rw [List.mem_singleton] at hz
          rw [hz]
          exact hP _ _ _ (Nat.le_refl _) (fun w hw => hw) hi
theorem numsF_mem {e : Nat} : ∀ (n : Nat) (acc : List Int) (l : List WV) {x : List Int} {r : List WV}, numsF e n acc l = .ok x r → (∀ w ∈ r, w ∈ l) ∧ ∀ z ∈ x, z ∈ acc ∨ ∃ w ∈ l, w.num = z
  | 0, acc, l, x, r, h => by simp only [numsF, PR.ok.injEq] at h; obtain ⟨rfl, rfl⟩ := h; exact ⟨fun w hw => hw, fun z hz => .inl hz⟩
  | n + 1, acc, [], x, r, h => by simp [numsF] at h
  | n + 1, acc, y :: l, x, r, h => by
    simp only [numsF] at h
    split at h
    · obtain ⟨h1, h2⟩ := numsF_mem n _ l h
      refine ⟨fun w hw => List.mem_cons_of_mem _ (h1 w hw), fun z hz => ?_⟩
      rcases h2 z hz with h | ⟨w, hw, e⟩
      · rcases List.mem_append.1 h with h | h
        · exact .inl h
        · exact .inr ⟨y, List.mem_cons_self, (List.mem_singleton.1 h).symm⟩
      · exact .inr ⟨w, List.mem_cons_of_mem _ hw, e⟩
    · cases h
/-- What a statement's keys and numbers are taken from. -/
theorem keysF_mem {e : Nat} {word : ByteArray} {Q : KV → Prop} : ∀ (f : Nat) (acc : List KV) (l : List WV) {x : List KV} {r : List WV}, (∀ k ∈ acc, Q k) → (∀ (y : WV) (vs : List Int), y ∈ l → y.kind = 1 → ¬ arR word y.text < 0 → vs.length = (arR word y.text).toNat → (∀ z ∈ vs, ∃ w ∈ l, w.num = z) → Q ⟨y.text, vs, y.at_⟩) → keysF e word f acc l = .ok x r → (∀ w ∈ r, w ∈ l) ∧ ∀ k ∈ x, Q k
  | 0, acc, l, x, r, ha, hQ, h => by simp only [keysF, PR.ok.injEq] at h; obtain ⟨rfl, rfl⟩ := h; exact ⟨fun w hw => hw, ha⟩
  | f + 1, acc, [], x, r, ha, hQ, h => by simp [keysF] at h
  | f + 1, acc, y :: l, x, r, ha, hQ, h => by
    simp only [keysF] at h
    split at h
    · simp only [PR.ok.injEq] at h; obtain ⟨rfl, rfl⟩ := h; exact ⟨fun w hw => List.mem_cons_of_mem _ hw, ha⟩
    · split at h
      · cases h
      · rename_i hk1
        split at h
        · cases h
        · rename_i har
          split at h
          · cases h
          · cases hn : numsF e (arR word y.text).toNat [] l with
            | err a b => simp only [hn] at h; cases h
            | ok vs l' =>
              simp only [hn] at h
              obtain ⟨m1, m2⟩ := numsF_mem _ _ _ hn
              have hvl := (numsF_len _ _ _ hn).2
              simp only [List.length_nil, Nat.zero_add] at hvl
              have := keysF_mem f _ l' ?_ (fun y' vs' h1 h2 h3 h4 h5 => hQ y' vs' (List.mem_cons_of_mem _ (m1 y' h1)) h2 h3 h4 (fun z hz => by obtain ⟨w, hw, e⟩ := h5 z hz; exact ⟨w, List.mem_cons_of_mem _ (m1 w hw), e⟩)) h
              · exact ⟨fun w hw => List.mem_cons_of_mem _ (m1 w (this.1 w hw)), this.2⟩
              · intro k hk
                rcases List.mem_append.1 hk with hk | hk
                · exact ha k hk
                · rw [List.mem_singleton] at hk
                  rw [hk]
                  refine hQ y vs List.mem_cons_self (by simpa using hk1) har hvl (fun z hz => ?_)
                  rcases m2 z hz with h | ⟨w, hw, e⟩
                  · simp at h
                  · exact ⟨w, List.mem_cons_of_mem _ hw, e⟩
theorem itemF_mem {e : Nat} {Q : KV → Prop} {l : List WV} {x : IV} {r : List WV} (hQ : ∀ (word : ByteArray) (y : WV) (vs : List Int), y ∈ l → y.kind = 1 → ¬ arR word y.text < 0 → vs.length = (arR word y.text).toNat → (∀ z ∈ vs, ∃ w ∈ l, w.num = z) → Q ⟨y.text, vs, y.at_⟩) (h : itemF e l = .ok x r) : (∀ w ∈ r, w ∈ l) ∧ ∀ k ∈ x.keys, Q k := by
  have rest : ∀ (word name : ByteArray) (a : Nat) (l' : List WV), (∀ w ∈ l', w ∈ l) → restF e word name a l' = .ok x r → (∀ w ∈ r, w ∈ l) ∧ ∀ k ∈ x.keys, Q k := by
    intro word name a l' hs h
    unfold restF at h
    cases hk : keysF e word (l'.length + 1) [] l' with
    | err c b => simp only [hk] at h; cases h
    | ok ks l'' =>
      simp only [hk, PR.ok.injEq] at h
      obtain ⟨rfl, rfl⟩ := h
      obtain ⟨m1, m2⟩ := keysF_mem (Q := Q) _ _ _ (by simp) (fun y vs h1 h2 h3 h4 h5 => hQ word y vs (hs y h1) h2 h3 h4 (fun z hz => by obtain ⟨w, hw, e⟩ := h5 z hz; exact ⟨w, hs w hw, e⟩)) hk
      exact ⟨fun w hw => hs w (m1 w hw), m2⟩
  cases l with
  | nil => cases h
  | cons y l =>
    simp only [itemF] at h
    split at h
    · cases h
    · split at h
      · cases h
      · split at h
        · exact rest _ _ _ _ (fun w hw => List.mem_cons_of_mem _ hw) h
        · cases l with
          | nil => cases h
          | cons z l =>
            simp only at h
            split at h
            · cases h
            · exact rest _ _ _ _ (fun w hw => List.mem_cons_of_mem _ (List.mem_cons_of_mem _ hw)) h
theorem parseR_ok (s : ByteArray) (P : IV → Prop) (hP : ∀ (l : List WV) (x : IV) (r : List WV), l.length ≤ (scanR s).1.length → (∀ w ∈ l, w ∈ (scanR s).1) → itemF s.size l = .ok x r → P x) : (parseR s).1.length ≤ 400 ∧ ∀ x ∈ (parseR s).1, P x := by
  unfold parseR
  split
  · exact ⟨by simp, by simp⟩
  · exact parseF_ok P _ _ _ hP (fun l' x r h => (itemF_mem (Q := fun _ => True) (fun _ _ _ _ _ _ _ _ => trivial) h).1) (by simp) (by simp)
end Go.Proofs.YteondblmcooklaaDoor
