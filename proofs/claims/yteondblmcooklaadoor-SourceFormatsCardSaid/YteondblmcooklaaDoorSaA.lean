/- Plain: parsing depends on the kinds, names and numbers of the words alone; what was parsed tells all words. -/
import Derived.Test.YteondblmcooklaaDoorSrcQ
import Derived.Test.YteondblmcooklaaDoorSrcJ
import Derived.Test.YteondblmcooklaaDoorSrcK
import Derived.Test.YteondblmcooklaaDoorSaE
namespace Go.Proofs.YteondblmcooklaaDoor
open Go Go.RowKit
set_option linter.unusedVariables false
/-- What counts of a word. -/
def core (x : WV) : Int × ByteArray × Int := if x.kind = 1 then (1, x.text, 0) else if x.kind = 2 then (2, ⟨#[]⟩, x.num) else (x.kind, ⟨#[]⟩, 0)
theorem core_fst (x : WV) : (core x).1 = x.kind := by
  unfold core
  by_cases h1 : x.kind = 1
  · rw [if_pos h1]; exact h1.symm
  · rw [if_neg h1]
    by_cases h2 : x.kind = 2
    · rw [if_pos h2]; exact h2.symm
    · rw [if_neg h2]
theorem core_kind {x y : WV} (h : core x = core y) : x.kind = y.kind := by rw [← core_fst, ← core_fst, h]
theorem core_text {x y : WV} (h : core x = core y) (hk : x.kind = 1) : x.text = y.text := by
  have h2 := core_kind h
  unfold core at h
  rw [if_pos hk, if_pos (by omega)] at h
  simpa using h
theorem core_num {x y : WV} (h : core x = core y) (hk : x.kind = 2) : x.num = y.num := by
  have h2 := core_kind h
  unfold core at h
  rw [if_neg (by omega), if_pos hk, if_neg (by omega), if_pos (by omega)] at h
  simpa using h
def sK (k : KV) : ByteArray × List Int := (k.key, k.vals)
def sX (x : IV) : ByteArray × ByteArray × List (ByteArray × List Int) := (x.word, x.name, x.keys.map sK)
/-- The same answer, but for the places. -/
def SameP {α β : Type} (f : α → β) : PR α → PR α → Prop
  | .err a _, .err b _ => a = b
  | .ok x r, .ok y q => f x = f y ∧ r.map core = q.map core
  | _, _ => False
theorem numsF_core {e e' : Nat} : ∀ (n : Nat) (vs : List Int) (l l' : List WV), l.map core = l'.map core → SameP id (numsF e n vs l) (numsF e' n vs l')
  | 0, vs, l, l', h => ⟨rfl, h⟩
  | n + 1, vs, [], [], h => rfl
  | n + 1, vs, [], y :: l', h => by simp at h
  | n + 1, vs, x :: l, [], h => by simp at h
  | n + 1, vs, x :: l, y :: l', h => by
    simp only [List.map_cons, List.cons.injEq] at h
    have hk := core_kind h.1
    simp only [numsF, ← hk]
    by_cases h2 : x.kind = 2
    · rw [if_pos h2, if_pos h2, core_num h.1 h2]
      exact numsF_core n _ l l' h.2
    · rw [if_neg h2, if_neg h2]
      exact rfl
theorem hasK_sK {a b : List KV} (h : a.map sK = b.map sK) (k : ByteArray) : hasK a k = hasK b k := by
  have key : ∀ l : List KV, hasK l k = (l.map sK).any fun p => decide (p.1 = k) := fun l => by
    unfold hasK
    rw [List.any_map]
    rfl
  rw [key, key, h]
theorem keysF_core {e e' : Nat} {word : ByteArray} : ∀ (f : Nat) (a b : List KV) (l l' : List WV), a.map sK = b.map sK → l.map core = l'.map core → SameP (fun x : List KV => x.map sK) (keysF e word f a l) (keysF e' word f b l')
  | 0, a, b, l, l', ha, h => ⟨ha, h⟩
  | f + 1, a, b, [], [], ha, h => rfl
  | f + 1, a, b, [], y :: l', ha, h => by simp at h
  | f + 1, a, b, x :: l, [], ha, h => by simp at h
  | f + 1, a, b, x :: l, y :: l', ha, h => by
    simp only [List.map_cons, List.cons.injEq] at h
    have hk := core_kind h.1
    simp only [keysF, ← hk]
    by_cases h3 : x.kind = 3
    · rw [if_pos h3, if_pos h3]
      exact ⟨ha, h.2⟩
    · rw [if_neg h3, if_neg h3]
      by_cases h1 : x.kind = 1
      · have ht := core_text h.1 h1
        have h1' : ¬ x.kind ≠ 1 := by omega
        rw [if_neg h1', if_neg h1', ← ht]
        by_cases h5 : arR word x.text < 0
        · rw [if_pos h5, if_pos h5]
          exact rfl
        · rw [if_neg h5, if_neg h5, hasK_sK ha]
          by_cases h6 : hasK b x.text = true
          · rw [if_pos h6, if_pos h6]
            exact rfl
          · rw [if_neg h6, if_neg h6]
            have hn := numsF_core (e := e) (e' := e') (arR word x.text).toNat [] l l' h.2
            cases hA : numsF e (arR word x.text).toNat [] l <;> cases hB : numsF e' (arR word x.text).toNat [] l' <;> rw [hA, hB] at hn
            · exact hn
            · exact hn.elim
            · exact hn.elim
            · obtain ⟨h7, h8⟩ := hn
              exact keysF_core f _ _ _ _ (by rw [List.map_append, List.map_append, ha]; simp only [List.map_cons, List.map_nil, sK, id_eq] at h7 ⊢; rw [h7]) h8
      · rw [if_pos h1, if_pos h1]
        exact rfl
theorem restF_core {e e' a a' : Nat} {word name : ByteArray} {l l' : List WV} (h : l.map core = l'.map core) : SameP sX (restF e word name a l) (restF e' word name a' l') := by
  have hl : l.length = l'.length := by have := congrArg List.length h; simpa using this
  unfold restF
  rw [hl]
  have hn := keysF_core (e := e) (e' := e') (word := word) (l'.length + 1) [] [] l l' rfl h
  cases hA : keysF e word (l'.length + 1) [] l <;> cases hB : keysF e' word (l'.length + 1) [] l' <;> rw [hA, hB] at hn
  · exact hn
  · exact hn.elim
  · exact hn.elim
  · exact ⟨by simp only [sX]; rw [show List.map sK _ = List.map sK _ from hn.1], hn.2⟩
theorem itemF_core {e e' : Nat} {l l' : List WV} (h : l.map core = l'.map core) : SameP sX (itemF e l) (itemF e' l') := by
  cases l with
  | nil => cases l' with
    | nil => exact rfl
    | cons y l' => simp at h
  | cons x l => cases l' with
    | nil => simp at h
    | cons y l' =>
      simp only [List.map_cons, List.cons.injEq] at h
      have hk := core_kind h.1
      simp only [itemF, ← hk]
      by_cases h1 : x.kind = 1
      · have ht := core_text h.1 h1
        have h1' : ¬ x.kind ≠ 1 := by omega
        rw [if_neg h1', if_neg h1', ← ht]
        by_cases h2 : isWord x.text = false
        · rw [if_pos h2, if_pos h2]
          exact rfl
        · rw [if_neg h2, if_neg h2]
          by_cases h3 : x.text = tTable
          · rw [if_pos h3, if_pos h3]
            exact restF_core h.2
          · rw [if_neg h3, if_neg h3]
            cases l with
            | nil => cases l' with
              | nil => exact rfl
              | cons y l' => have := h.2; simp at this
            | cons u l => cases l' with
              | nil => have := h.2; simp at this
              | cons v l' =>
                have h4 := h.2
                simp only [List.map_cons, List.cons.injEq] at h4
                have hk4 := core_kind h4.1
                simp only [← hk4]
                by_cases h5 : u.kind = 1
                · have h5' : ¬ u.kind ≠ 1 := by omega
                  rw [if_neg h5', if_neg h5', ← core_text h4.1 h5]
                  exact restF_core h4.2
                · rw [if_pos h5, if_pos h5]
                  exact rfl
      · rw [if_pos h1, if_pos h1]
        exact rfl
theorem parseF_core {e e' : Nat} : ∀ (f : Nat) (a b : List IV) (l l' : List WV), a.map sX = b.map sX → l.map core = l'.map core →
    (parseF e f a l).2.1 = (parseF e' f b l').2.1 ∧ (parseF e f a l).1.map sX = (parseF e' f b l').1.map sX
  | 0, a, b, l, l', ha, h => ⟨rfl, ha⟩
  | f + 1, a, b, [], [], ha, h => ⟨rfl, ha⟩
  | f + 1, a, b, [], y :: l', ha, h => by simp at h
  | f + 1, a, b, x :: l, [], ha, h => by simp at h
  | f + 1, a, b, x :: l, y :: l', ha, h => by
    have hl : a.length = b.length := by have := congrArg List.length ha; simpa using this
    simp only [parseF, ← hl]
    by_cases h4 : a.length = 400
    · rw [if_pos h4, if_pos h4]
      exact ⟨rfl, rfl⟩
    · rw [if_neg h4, if_neg h4]
      have hn := itemF_core (e := e) (e' := e') h
      cases hA : itemF e (x :: l) <;> cases hB : itemF e' (y :: l') <;> rw [hA, hB] at hn
      · exact ⟨hn, rfl⟩
      · exact hn.elim
      · exact hn.elim
      · exact parseF_core f _ _ _ _ (by rw [List.map_append, List.map_append, ha]; simp only [List.map_cons, List.map_nil]; rw [hn.1]) hn.2
/-- The words of statements. -/
def coreN (n : Int) : Int × ByteArray × Int := (2, ⟨#[]⟩, n)
def coreT (t : ByteArray) : Int × ByteArray × Int := (1, t, 0)
def coreE : Int × ByteArray × Int := (3, ⟨#[]⟩, 0)
def coreK (k : KV) : List (Int × ByteArray × Int) := coreT k.key :: k.vals.map coreN
def coreX (x : IV) : List (Int × ByteArray × Int) := coreT x.word :: ((if x.word = tTable then [] else [coreT x.name]) ++ (x.keys.flatMap coreK ++ [coreE]))
theorem core1 {x : WV} (h : x.kind = 1) : core x = coreT x.text := by unfold core; rw [if_pos h]; rfl
theorem core2 {x : WV} (h : x.kind = 2) : core x = coreN x.num := by unfold core; rw [if_neg (by omega), if_pos h]; rfl
theorem core3 {x : WV} (h : x.kind = 3) : core x = coreE := by unfold core; rw [if_neg (by omega), if_neg (by omega), h]; rfl
theorem numsF_all {e : Nat} : ∀ (n : Nat) (vs : List Int) (l : List WV) {x : List Int} {r : List WV}, numsF e n vs l = .ok x r → ∃ z, x = vs ++ z ∧ l.map core = z.map coreN ++ r.map core
  | 0, vs, l, x, r, h => by simp only [numsF, PR.ok.injEq] at h; obtain ⟨rfl, rfl⟩ := h; exact ⟨[], by simp, by simp⟩
  | n + 1, vs, [], x, r, h => by simp [numsF] at h
  | n + 1, vs, y :: l, x, r, h => by
    simp only [numsF] at h
    split at h
    · rename_i h2
      obtain ⟨z, rfl, hz⟩ := numsF_all n _ l h
      exact ⟨y.num :: z, by simp, by simp only [List.map_cons, List.cons_append]; rw [hz, core2 h2]⟩
    · cases h
theorem keysF_all {e : Nat} {word : ByteArray} : ∀ (f : Nat) (acc : List KV) (l : List WV) {x : List KV} {r : List WV}, l.length < f → keysF e word f acc l = .ok x r → ∃ z, x = acc ++ z ∧ l.map core = z.flatMap coreK ++ (coreE :: r.map core)
  | 0, acc, l, x, r, hf, h => by omega
  | f + 1, acc, [], x, r, hf, h => by simp [keysF] at h
  | f + 1, acc, y :: l, x, r, hf, h => by
    simp only [keysF] at h
    split at h
    · rename_i h3
      simp only [PR.ok.injEq] at h
      obtain ⟨rfl, rfl⟩ := h
      exact ⟨[], by simp, by simp [core3 h3]⟩
    · split at h
      · cases h
      · rename_i h1
        split at h
        · cases h
        · split at h
          · cases h
          · split at h
            · cases h
            · rename_i vs l' hn
              have hlen := (numsF_len _ _ _ hn).1
              obtain ⟨z1, hz1, hz1'⟩ := numsF_all _ _ _ hn
              obtain ⟨z, rfl, hz⟩ := keysF_all f _ l' (by simp only [List.length_cons] at hf; omega) h
              refine ⟨⟨y.text, vs, y.at_⟩ :: z, by simp, ?_⟩
              simp only [List.map_cons, List.flatMap_cons, coreK, List.cons_append, List.append_assoc]
              rw [core1 (by omega), hz1', hz, hz1]
              simp
theorem restF_all {e a : Nat} {word name : ByteArray} {l : List WV} {x : IV} {r : List WV} (h : restF e word name a l = .ok x r) : x.word = word ∧ x.name = name ∧ l.map core = x.keys.flatMap coreK ++ (coreE :: r.map core) := by
  unfold restF at h
  split at h
  · cases h
  · rename_i ks l' hk
    simp only [PR.ok.injEq] at h
    obtain ⟨rfl, rfl⟩ := h
    obtain ⟨z, hz, hz'⟩ := keysF_all _ _ _ (Nat.lt_succ_self _) hk
    rw [List.nil_append] at hz
    exact ⟨rfl, rfl, by rw [hz', hz]⟩
theorem itemF_all {e : Nat} {l : List WV} {x : IV} {r : List WV} (h : itemF e l = .ok x r) : l.map core = coreX x ++ r.map core ∧ (x.word = tTable → x.name = ⟨#[]⟩) := by
  cases l with
  | nil => simp [itemF] at h
  | cons y l =>
    simp only [itemF] at h
    split at h
    · cases h
    · rename_i h1
      split at h
      · cases h
      · split at h
        · rename_i h3
          obtain ⟨hw, hn, hl⟩ := restF_all h
          refine ⟨?_, fun _ => hn⟩
          unfold coreX
          rw [if_pos (hw.trans h3), List.map_cons, hl, core1 (by omega), hw]
          simp
        · rename_i h3
          cases l with
          | nil => cases h
          | cons u l =>
            simp only at h
            split at h
            · cases h
            · rename_i h4
              obtain ⟨hw, hn, hl⟩ := restF_all h
              refine ⟨?_, fun ht => absurd (hw.symm.trans ht) h3⟩
              unfold coreX
              rw [if_neg (fun ht => h3 (hw.symm.trans ht)), List.map_cons, List.map_cons, hl, core1 (by omega), core1 (by omega), hw, hn]
              simp
theorem parseF_all {e : Nat} : ∀ (f : Nat) (acc : List IV) (l : List WV), l.length < f → (parseF e f acc l).2.1 = 0 → ∃ z, (parseF e f acc l).1 = acc ++ z ∧ l.map core = z.flatMap coreX ∧ ∀ x ∈ z, x.word = tTable → x.name = ⟨#[]⟩
  | 0, acc, l, hf, h => by omega
  | f + 1, acc, [], hf, h => ⟨[], by simp [parseF], rfl, by simp⟩
  | f + 1, acc, y :: l, hf, h => by
    simp only [parseF] at h ⊢
    split at h
    · simp at h
    · rename_i h4
      rw [if_neg h4]
      cases hI : itemF e (y :: l) with
      | err a b =>
        rw [hI] at h
        exact absurd h (itemF_err hI)
      | ok x r =>
        rw [hI] at h
        simp only at h ⊢
        have hl := (itemF_len hI).1
        obtain ⟨h5, h6⟩ := itemF_all hI
        obtain ⟨z, hz, hz', hz''⟩ := parseF_all f _ r (by simp only [List.length_cons] at hl hf; omega) h
        refine ⟨x :: z, by rw [hz]; simp, by rw [h5, hz']; simp, ?_⟩
        intro u hu
        rcases List.mem_cons.1 hu with rfl | hu
        · exact h6
        · exact hz'' u hu
theorem eqK_sK {x y : KV} : eqK x y = true ↔ sK x = sK y := by unfold eqK sK; simp
theorem eqL_map {α β : Type} {f : α → α → Bool} {g : α → β} (hf : ∀ x y, f x y = true ↔ g x = g y) : ∀ l m : List α, eqL f l m = true ↔ l.map g = m.map g
  | [], [] => by simp [eqL]
  | [], y :: m => by simp [eqL]
  | x :: l, [] => by simp [eqL]
  | x :: l, y :: m => by simp [eqL, hf, eqL_map hf l m]
theorem eqX_sX {x y : IV} : eqX x y = true ↔ sX x = sX y := by
  unfold eqX sX
  simp only [Bool.and_eq_true, decide_eq_true_eq, Prod.mk.injEq, eqL_map (f := eqK) (g := sK) (fun _ _ => eqK_sK), and_assoc]
theorem eqX_sXs (l m : List IV) : eqL eqX l m = true ↔ l.map sX = m.map sX := eqL_map (f := eqX) (g := sX) (fun _ _ => eqX_sX) l m
/-- Two texts of the same words have the same statements. -/
theorem parseR_core {s t : ByteArray} (hs : (scanR s).2.1 = 0) (ht : (scanR t).2.1 = 0) (h : (scanR s).1.map core = (scanR t).1.map core) : (parseR s).2.1 = (parseR t).2.1 ∧ (parseR s).1.map sX = (parseR t).1.map sX := by
  have hl : (scanR s).1.length = (scanR t).1.length := by have := congrArg List.length h; simpa using this
  unfold parseR
  rw [if_neg (by omega), if_neg (by omega), hl]
  exact parseF_core _ _ _ _ _ rfl h
theorem parseR_all {s : ByteArray} (h : (parseR s).2.1 = 0) : (scanR s).2.1 = 0 ∧ (scanR s).1.map core = (parseR s).1.flatMap coreX ∧ ∀ x ∈ (parseR s).1, x.word = tTable → x.name = ⟨#[]⟩ := by
  unfold parseR at h ⊢
  by_cases hs : (scanR s).2.1 = 0
  · rw [if_neg (by omega)] at h ⊢
    obtain ⟨z, hz, hz', hz''⟩ := parseF_all _ _ _ (Nat.lt_succ_self _) h
    rw [List.nil_append] at hz
    exact ⟨hs, by rw [hz', hz], by rw [hz]; exact hz''⟩
  · rw [if_pos hs] at h
    exact absurd h hs
end Go.Proofs.YteondblmcooklaaDoor
