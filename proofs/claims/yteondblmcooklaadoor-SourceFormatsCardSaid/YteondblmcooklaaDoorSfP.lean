/- Plain: what the reference writes, and that the same statements can be written by both. -/
import Derived.Test.YteondblmcooklaaDoorSaC
namespace Go.Proofs.YteondblmcooklaaDoor
open Go Go.RowKit
set_option linter.unusedVariables false
def rheadB (x : IV) : List UInt8 := bytes x.word ++ (if x.word = tTable then [] else 32 :: bytes x.name)
def ritemB (x : IV) : List UInt8 := rheadB x ++ x.keys.flatMap keyB ++ [59, 10]
def rtextB (l : List IV) : List UInt8 := l.flatMap ritemB
/-- s is the text so far, or both are too long. -/
def Wr (s : ByteArray) (b : List UInt8) : Prop := bytes s = b ∨ (20000 < s.size ∧ 20000 < b.length)
theorem Wr.app {s : ByteArray} {b : List UInt8} (h : Wr s b) (t : ByteArray) : Wr (s ++ t) (b ++ bytes t) := by
  rcases h with h | ⟨h1, h2⟩
  · exact .inl (by rw [bytes_app, h])
  · exact .inr ⟨by rw [ByteArray.size_append]; omega, by rw [List.length_append]; omega⟩
theorem Wr.long {s : ByteArray} {b : List UInt8} (h : Wr s b) (hs : 20000 < s.size) (c : List UInt8) : Wr s (b ++ c) := by
  refine .inr ⟨hs, ?_⟩
  rw [List.length_append]
  rcases h with h | ⟨h1, h2⟩
  · rw [size_bytes, h] at hs; omega
  · omega
theorem Wr.to {s : ByteArray} {b c : List UInt8} (h : Wr s b) (e : b = c) : Wr s c := e ▸ h
theorem itemB_ok {x : IV} (h : okN x) : ritemB x = itemB x := by
  unfold ritemB itemB rheadB headB
  by_cases ht : x.word = tTable
  · rw [if_pos ht, if_pos (h.2 ht)]; rfl
  · rw [if_neg ht, if_neg (fun hn => ht (h.1 hn))]; rfl
theorem textB_ok {l : List IV} (h : ∀ x ∈ l, okN x) : rtextB l = textB l := by
  unfold rtextB textB
  induction l with
  | nil => rfl
  | cons x l ih => rw [List.flatMap_cons, List.flatMap_cons, itemB_ok (h x (by simp)), ih fun y hy => h y (by simp [hy])]
theorem parse_okN {s : ByteArray} (h : (parseR s).2.1 = 0) : ∀ x ∈ (parseR s).1, okN x := by
  obtain ⟨h1, h2, h3⟩ := parseR_all h
  intro x hx
  refine ⟨fun hn => Classical.byContradiction fun hw => ?_, h3 x hx⟩
  have hmem : coreT x.name ∈ (scanR s).1.map core := by
    rw [h2]
    refine List.mem_flatMap.2 ⟨x, hx, ?_⟩
    unfold coreX
    rw [if_neg hw]
    simp
  obtain ⟨y, hy, he⟩ := List.mem_map.1 hmem
  have hy1 : y.kind = 1 := by rw [← core_fst y, he]; rfl
  rw [core1 hy1] at he
  have hyt : y.text = x.name := by simpa [coreT] using he
  rcases scanR_chain s with ⟨m, hm, hc, _⟩ | ⟨hb, _⟩
  · rw [hm] at hy
    have hw := (chain_isW hc y hy).1
    rw [hyt, hn] at hw
    exact absurd hw (by decide)
  · exact absurd h1 hb
theorem okN_sX {l m : List IV} (h : l.map sX = m.map sX) (hl : ∀ x ∈ l, okN x) : ∀ x ∈ m, okN x := by
  intro x hx
  have : sX x ∈ l.map sX := by rw [h]; exact List.mem_map_of_mem hx
  obtain ⟨y, hy, he⟩ := List.mem_map.1 this
  have := hl y hy
  unfold sX at he
  simp only [Prod.mk.injEq] at he
  unfold okN at this ⊢
  rw [← he.1, ← he.2.1]
  exact this
theorem parse_short {s : ByteArray} (h : (parseR s).2.1 = 0) : s.size ≤ 20000 := by
  have h1 := (parseR_all h).1
  unfold scanR at h1
  split at h1
  · simp at h1
  · omega
/-- What the reference hands back, from what it wrote. -/
def rfmtR (s : ByteArray) (l : List IV) : ByteArray × Bool := if (parseR s).2.1 ≠ 0 ∨ eqL eqX (parseR s).1 l = false then (⟨#[]⟩, false) else (s, true)
theorem fmt_same {s : ByteArray} {l : List IV} (h : Wr s (rtextB l)) : rfmtR s l = fmtR l := by
  have key : ∀ t : ByteArray, (parseR t).2.1 = 0 → eqL eqX (parseR t).1 l = true → rtextB l = textB l := fun t h1 h2 => textB_ok (okN_sX ((eqX_sXs _ _).1 h2) (parse_okN h1))
  have hT : ∀ t : ByteArray, bytes t = textB l → t = ⟨(textB l).toArray⟩ := fun t ht => by
    apply ByteArray.ext
    show t.data = (textB l).toArray
    rw [← ht]
    unfold bytes
    rw [Array.toArray_toList]
  unfold rfmtR fmtR
  by_cases h1 : (parseR (⟨(textB l).toArray⟩ : ByteArray)).2.1 ≠ 0 ∨ eqL eqX (parseR (⟨(textB l).toArray⟩ : ByteArray)).1 l = false
  · rw [if_pos h1]
    by_cases h2 : (parseR s).2.1 ≠ 0 ∨ eqL eqX (parseR s).1 l = false
    · rw [if_pos h2]
    · exfalso
      have h3 : (parseR s).2.1 = 0 := Classical.byContradiction fun h => h2 (.inl h)
      have h4 : eqL eqX (parseR s).1 l = true := by
        cases he : eqL eqX (parseR s).1 l with
        | false => exact absurd (.inr he) h2
        | true => rfl
      have h5 := parse_short h3
      rcases h with h | ⟨h6, _⟩
      · rw [key s h3 h4] at h
        rw [← hT s h] at h1
        exact h2 h1
      · omega
  · rw [if_neg h1]
    have h3 : (parseR (⟨(textB l).toArray⟩ : ByteArray)).2.1 = 0 := Classical.byContradiction fun h => h1 (.inl h)
    have h4 : eqL eqX (parseR (⟨(textB l).toArray⟩ : ByteArray)).1 l = true := by
      cases he : eqL eqX (parseR (⟨(textB l).toArray⟩ : ByteArray)).1 l with
      | false => exact absurd (.inr he) h1
      | true => rfl
    have h5 := parse_short h3
    have h6 : (textB l).length ≤ 20000 := by
      have : (⟨(textB l).toArray⟩ : ByteArray).size = (textB l).length := by show (textB l).toArray.size = _; simp
      omega
    rcases h with h | ⟨_, h7⟩
    · rw [key _ h3 h4] at h
      rw [hT s h, if_neg h1]
    · rw [key _ h3 h4] at h7
      omega
end Go.Proofs.YteondblmcooklaaDoor
