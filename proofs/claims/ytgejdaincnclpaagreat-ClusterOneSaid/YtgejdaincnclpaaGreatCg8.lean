/- Merged texts: ClO ClP ClB RsE RsG ClL (what no proof of the claim needs is left out). -/
import Derived.Test.YtgejdaincnclpaaGreatCg7
namespace Go.Proofs.YtgejdaincnclpaaGreat
open Go Go.RowKit
theorem cel10 {G : Prop} {N b : Nat} {W w : World} {v0 v1 v2 v3 v4 v5 v6 v7 v8 v9 : Value} (hb : Below N W w) (h1 : b < N) (h2 : b < w.heap.size) (c0 : W.cell? ⟨b, 0, none⟩ = some v0) (c1 : W.cell? ⟨b, 1, none⟩ = some v1) (c2 : W.cell? ⟨b, 2, none⟩ = some v2) (c3 : W.cell? ⟨b, 3, none⟩ = some v3) (c4 : W.cell? ⟨b, 4, none⟩ = some v4) (c5 : W.cell? ⟨b, 5, none⟩ = some v5) (c6 : W.cell? ⟨b, 6, none⟩ = some v6) (c7 : W.cell? ⟨b, 7, none⟩ = some v7) (c8 : W.cell? ⟨b, 8, none⟩ = some v8) (c9 : W.cell? ⟨b, 9, none⟩ = some v9) (hf : ∀ o, W.frozen? ⟨b, o, none⟩ = false) (k : w.cell? ⟨b, 0, none⟩ = some v0 → w.cell? ⟨b, 1, none⟩ = some v1 → w.cell? ⟨b, 2, none⟩ = some v2 → w.cell? ⟨b, 3, none⟩ = some v3 → w.cell? ⟨b, 4, none⟩ = some v4 → w.cell? ⟨b, 5, none⟩ = some v5 → w.cell? ⟨b, 6, none⟩ = some v6 → w.cell? ⟨b, 7, none⟩ = some v7 → w.cell? ⟨b, 8, none⟩ = some v8 → w.cell? ⟨b, 9, none⟩ = some v9 → (∀ o, w.frozen? ⟨b, o, none⟩ = false) → (b < w.heap.size ∧ b < w.heap.size + 1 ∧ b < w.heap.size + 1 + 1 ∧ b < w.heap.size + 1 + 1 + 1) → G) : G :=
  k (by rw [hb.cell (p := ⟨b, 0, none⟩) h1]; exact c0) (by rw [hb.cell (p := ⟨b, 1, none⟩) h1]; exact c1) (by rw [hb.cell (p := ⟨b, 2, none⟩) h1]; exact c2) (by rw [hb.cell (p := ⟨b, 3, none⟩) h1]; exact c3) (by rw [hb.cell (p := ⟨b, 4, none⟩) h1]; exact c4) (by rw [hb.cell (p := ⟨b, 5, none⟩) h1]; exact c5) (by rw [hb.cell (p := ⟨b, 6, none⟩) h1]; exact c6) (by rw [hb.cell (p := ⟨b, 7, none⟩) h1]; exact c7) (by rw [hb.cell (p := ⟨b, 8, none⟩) h1]; exact c8) (by rw [hb.cell (p := ⟨b, 9, none⟩) h1]; exact c9) (fun o => by rw [hb.frozen (p := ⟨b, o, none⟩) h1]; exact hf o) ⟨h2, by omega, by omega, by omega⟩
structure Mt where
  (a b n1 n2 w1 w2 k1 k2 e g : Int)
  deriving DecidableEq
def Mt.cells (m : Mt) : List Value := [.int .i64 m.a, .int .i64 m.b, .int .i64 m.n1, .int .i64 m.n2, .int .i64 m.w1, .int .i64 m.w2, .int .i64 m.k1, .int .i64 m.k2, .int .i64 m.e, .int .i64 m.g]
def Mt.v (m : Mt) : Value := .agg #[.int .i64 m.a, .int .i64 m.b, .int .i64 m.n1, .int .i64 m.n2, .int .i64 m.w1, .int .i64 m.w2, .int .i64 m.k1, .int .i64 m.k2, .int .i64 m.e, .int .i64 m.g]
def MAt (w : World) (A : Option Addr) (l : List Mt) : Prop := ∀ k m, l[k]? = some m → ∃ g o, A = some ⟨g, o, none⟩ ∧ g < w.heap.size ∧ w.cell? ⟨g, o + k * 10, none⟩ = some (.int .i64 m.a) ∧ w.cell? ⟨g, o + k * 10 + 1, none⟩ = some (.int .i64 m.b) ∧ w.cell? ⟨g, o + k * 10 + 2, none⟩ = some (.int .i64 m.n1) ∧ w.cell? ⟨g, o + k * 10 + 3, none⟩ = some (.int .i64 m.n2) ∧ w.cell? ⟨g, o + k * 10 + 4, none⟩ = some (.int .i64 m.w1) ∧ w.cell? ⟨g, o + k * 10 + 5, none⟩ = some (.int .i64 m.w2) ∧ w.cell? ⟨g, o + k * 10 + 6, none⟩ = some (.int .i64 m.k1) ∧ w.cell? ⟨g, o + k * 10 + 7, none⟩ = some (.int .i64 m.k2) ∧ w.cell? ⟨g, o + k * 10 + 8, none⟩ = some (.int .i64 m.e) ∧ w.cell? ⟨g, o + k * 10 + 9, none⟩ = some (.int .i64 m.g)
theorem MAt.below {w w1 : World} {A : Option Addr} {l : List Mt} {B : Nat} (h : MAt w A l) (hb : Below B w w1) (hB : w.heap.size ≤ B) : MAt w1 A l := by
  intro k m hm
  obtain ⟨g, o, hA, hg, c0, c1, c2, c3, c4, c5, c6, c7, c8, c9⟩ := h k m hm
  refine ⟨g, o, hA, Nat.lt_of_lt_of_le hg hb.size, ?_, ?_, ?_, ?_, ?_, ?_, ?_, ?_, ?_, ?_⟩ <;> (rw [hb.cell (Nat.lt_of_lt_of_le hg hB)]; assumption)
structure Ct where
  (b k i : Int)
  (r0 r1 r2 r3 r4 r5 r6 : Value)
def Ct.cells (x : Ct) : List Value := [.int .i64 x.b, .int .i64 x.k, .int .i64 x.i, x.r0, x.r1, x.r2, x.r3, x.r4, x.r5, x.r6]
def Ct.v (x : Ct) : Value := .agg #[.int .i64 x.b, .int .i64 x.k, .int .i64 x.i, x.r0, x.r1, x.r2, x.r3, x.r4, x.r5, x.r6]
def CAt (w : World) (A : Option Addr) (l : List Ct) : Prop := ∀ k x, l[k]? = some x → ∃ g o, A = some ⟨g, o, none⟩ ∧ g < w.heap.size ∧ w.cell? ⟨g, o + k * 10, none⟩ = some (.int .i64 x.b) ∧ w.cell? ⟨g, o + k * 10 + 1, none⟩ = some (.int .i64 x.k) ∧ w.cell? ⟨g, o + k * 10 + 2, none⟩ = some (.int .i64 x.i) ∧ w.cell? ⟨g, o + k * 10 + 3, none⟩ = some x.r0 ∧ w.cell? ⟨g, o + k * 10 + 4, none⟩ = some x.r1 ∧ w.cell? ⟨g, o + k * 10 + 5, none⟩ = some x.r2 ∧ w.cell? ⟨g, o + k * 10 + 6, none⟩ = some x.r3 ∧ w.cell? ⟨g, o + k * 10 + 7, none⟩ = some x.r4 ∧ w.cell? ⟨g, o + k * 10 + 8, none⟩ = some x.r5 ∧ w.cell? ⟨g, o + k * 10 + 9, none⟩ = some x.r6
theorem CAt.below {w w1 : World} {A : Option Addr} {l : List Ct} {B : Nat} (h : CAt w A l) (hb : Below B w w1) (hB : w.heap.size ≤ B) : CAt w1 A l := by
  intro k m hm
  obtain ⟨g, o, hA, hg, c0, c1, c2, c3, c4, c5, c6, c7, c8, c9⟩ := h k m hm
  refine ⟨g, o, hA, Nat.lt_of_lt_of_le hg hb.size, ?_, ?_, ?_, ?_, ?_, ?_, ?_, ?_, ?_, ?_⟩ <;> (rw [hb.cell (Nat.lt_of_lt_of_le hg hB)]; assumption)
end Go.Proofs.YtgejdaincnclpaaGreat
namespace Go.Proofs.YtgejdaincnclpaaGreat
set_option linter.unusedVariables false
inductive Reach (n : Nat) (sh : Nat → Nat → Bool) (i : Nat) : Nat → Prop
  | refl : Reach n sh i i
  | step {j k : Nat} : Reach n sh i j → k < n → sh j k = true → Reach n sh i k
theorem Reach.lt {n : Nat} {sh : Nat → Nat → Bool} {i j : Nat} (h : Reach n sh i j) (hi : i < n) : j < n := by
  cases h with
  | refl => exact hi
  | step _ hk _ => exact hk
theorem Reach.trans {n : Nat} {sh : Nat → Nat → Bool} {i j k : Nat} (h : Reach n sh i j) (g : Reach n sh j k) : Reach n sh i k := by
  induction g with
  | refl => exact h
  | step _ hk hs ih => exact ih.step hk hs
theorem Reach.symm {n : Nat} {sh : Nat → Nat → Bool} (hs : ∀ a b, sh a b = sh b a) {i j : Nat} (hi : i < n) (h : Reach n sh i j) : Reach n sh j i := by
  induction h with
  | refl => exact .refl
  | step hr hk hsh ih =>
    have := hr.lt hi
    exact (Reach.step .refl this (by rw [hs]; exact hsh)).trans ih
def Old (n : Nat) (sh : Nat → Nat → Bool) (m j : Nat) : Prop := ∃ i, i < m ∧ Reach n sh i j
open Classical in
noncomputable def grpOf (n : Nat) (sh : Nat → Nat → Bool) (i : Nat) : List Nat := (List.range n).filter (fun j => decide (Reach n sh i j))
open Classical in
noncomputable def groupsTo (n : Nat) (sh : Nat → Nat → Bool) : Nat → List (List Nat)
  | 0 => []
  | m + 1 => groupsTo n sh m ++ (if Old n sh m m then [] else [grpOf n sh m])
theorem groupsTo_old {n : Nat} {sh : Nat → Nat → Bool} {m : Nat} (h : Old n sh m m) : groupsTo n sh (m + 1) = groupsTo n sh m := by
  show groupsTo n sh m ++ _ = _; rw [if_pos h, List.append_nil]
theorem groupsTo_new {n : Nat} {sh : Nat → Nat → Bool} {m : Nat} (h : ¬ Old n sh m m) : groupsTo n sh (m + 1) = groupsTo n sh m ++ [grpOf n sh m] := by
  show groupsTo n sh m ++ _ = _; rw [if_neg h]
theorem groupsTo_len (n : Nat) (sh : Nat → Nat → Bool) (m : Nat) : (groupsTo n sh m).length ≤ m := by
  induction m with
  | zero => exact Nat.le_refl _
  | succ m ih =>
    by_cases h : Old n sh m m
    · rw [groupsTo_old h]; omega
    · rw [groupsTo_new h, List.length_append, List.length_singleton]; omega
open Classical in
theorem mem_grp {n : Nat} {sh : Nat → Nat → Bool} {i j : Nat} : j ∈ grpOf n sh i ↔ j < n ∧ Reach n sh i j := by
  unfold grpOf
  rw [List.mem_filter, List.mem_range, decide_eq_true_eq]
theorem old_suc {n : Nat} {sh : Nat → Nat → Bool} {m j : Nat} : Old n sh (m + 1) j ↔ Old n sh m j ∨ Reach n sh m j := by
  constructor
  · rintro ⟨i, hi, h⟩
    rcases Nat.lt_or_eq_of_le (Nat.le_of_lt_succ hi) with h' | rfl
    · exact .inl ⟨i, h', h⟩
    · exact .inr h
  · rintro (⟨i, hi, h⟩ | h)
    · exact ⟨i, by omega, h⟩
    · exact ⟨m, by omega, h⟩
theorem old_same {n : Nat} {sh : Nat → Nat → Bool} {m j : Nat} (h : Old n sh m m) : Old n sh (m + 1) j ↔ Old n sh m j := by
  rw [old_suc]
  constructor
  · rintro (h' | h')
    · exact h'
    · obtain ⟨i, hi, g⟩ := h; exact ⟨i, hi, g.trans h'⟩
  · exact .inl
def DoneI (n : Nat) (sh : Nat → Nat → Bool) (i : Nat) (d : List Bool) : Prop := d.length = n ∧ ∀ j, d[j]? = some true ↔ j < n ∧ Old n sh i j
theorem DoneI.zero (n : Nat) (sh : Nat → Nat → Bool) : DoneI n sh 0 (List.replicate n false) := ⟨by simp, fun j => by
  constructor
  · intro h
    have := List.mem_of_getElem? h
    rw [List.mem_replicate] at this
    exact absurd this.2 (by decide)
  · rintro ⟨_, i, hi, _⟩; omega⟩
theorem DoneI.old {n : Nat} {sh : Nat → Nat → Bool} {i : Nat} {d : List Bool} (h : DoneI n sh i d) (hi : d[i]? = some true) : Old n sh i i := ((h.2 i).1 hi).2
theorem DoneI.new {n : Nat} {sh : Nat → Nat → Bool} {i : Nat} {d : List Bool} (h : DoneI n sh i d) (hn : i < n) (hi : d[i]? = some false) : ¬ Old n sh i i := fun g => by
  have := (h.2 i).2 ⟨hn, g⟩
  rw [hi] at this
  exact absurd this (by decide)
theorem DoneI.skip {n : Nat} {sh : Nat → Nat → Bool} {i : Nat} {d : List Bool} (h : DoneI n sh i d) (hi : d[i]? = some true) : DoneI n sh (i + 1) d :=
  ⟨h.1, fun j => by rw [h.2, old_same (h.old hi)]⟩
structure GI (n : Nat) (sh : Nat → Nat → Bool) (i : Nat) (d : List Bool) (g : List Nat) (p k : Nat) : Prop where
  new : ¬ Old n sh i i
  lt : i < n
  len : d.length = n
  don : ∀ j, d[j]? = some true ↔ (j < n ∧ (Old n sh i j ∨ j ∈ g))
  mem : ∀ j ∈ g, j < n ∧ Reach n sh i j
  nod : g.Nodup
  self : i ∈ g
  ple : p ≤ g.length
  clo : ∀ q a, q < p → g[q]? = some a → ∀ c, c < n → sh a c = true → d[c]? = some true
  cur : ∀ a, g[p]? = some a → ∀ c, c < k → c < n → sh a c = true → d[c]? = some true
theorem set_true_iff {d : List Bool} {k j : Nat} (hk : k < d.length) : (d.set k true)[j]? = some true ↔ d[j]? = some true ∨ j = k := by
  rw [List.getElem?_set]
  by_cases h : k = j
  · subst h; rw [if_pos rfl, if_pos hk]; simp
  · rw [if_neg h]
    constructor
    · exact .inl
    · rintro (h' | h')
      · exact h'
      · exact absurd h'.symm h
theorem GI.start {n : Nat} {sh : Nat → Nat → Bool} {i : Nat} {d : List Bool} (h : DoneI n sh i d) (hn : i < n) (hi : d[i]? = some false) : GI n sh i (d.set i true) [i] 0 0 where
  new := h.new hn hi
  lt := hn
  len := by simp [h.1]
  don := fun j => by
    rw [set_true_iff (by rw [h.1]; exact hn), h.2, List.mem_singleton]
    constructor
    · rintro (⟨a, b⟩ | rfl)
      · exact ⟨a, .inl b⟩
      · exact ⟨hn, .inr rfl⟩
    · rintro ⟨a, b | b⟩
      · exact .inl ⟨a, b⟩
      · exact .inr b
  mem := fun j hj => by rw [List.mem_singleton] at hj; subst hj; exact ⟨hn, .refl⟩
  nod := by simp
  self := by simp
  ple := Nat.zero_le _
  clo := fun q a hq => by omega
  cur := fun a _ c hc => by omega
theorem GI.len_le {n : Nat} {sh : Nat → Nat → Bool} {i : Nat} {d : List Bool} {g : List Nat} {p k : Nat} (h : GI n sh i d g p k) : g.length ≤ n := by
  simpa using h.nod.length_le_of_subset (l₂ := List.range n) (fun x hx => List.mem_range.2 (h.mem x hx).1)
theorem GI.pass {n : Nat} {sh : Nat → Nat → Bool} {i : Nat} {d : List Bool} {g : List Nat} {p k a : Nat} (h : GI n sh i d g p k) (ha : g[p]? = some a) (hk : k < n) (hno : d[k]? = some true ∨ sh a k = false) : GI n sh i d g p (k + 1) :=
  { h with
    cur := fun a' ha' c hc hcn hs => by
      rw [ha] at ha'
      obtain rfl := Option.some.inj ha'
      rcases Nat.lt_or_eq_of_le (Nat.le_of_lt_succ hc) with h' | rfl
      · exact h.cur a ha c h' hcn hs
      · rcases hno with h1 | h1
        · exact h1
        · rw [hs] at h1; exact absurd h1 (by decide) }
theorem GI.add {n : Nat} {sh : Nat → Nat → Bool} {i : Nat} {d : List Bool} {g : List Nat} {p k a : Nat} (h : GI n sh i d g p k) (ha : g[p]? = some a) (hk : k < n) (hd : d[k]? = some false) (hs : sh a k = true) : GI n sh i (d.set k true) (g ++ [k]) p (k + 1) where
  new := h.new
  lt := h.lt
  len := by simp [h.len]
  don := fun j => by
    rw [set_true_iff (by rw [h.len]; exact hk), h.don, List.mem_append, List.mem_singleton]
    constructor
    · rintro (⟨x, y | y⟩ | rfl)
      · exact ⟨x, .inl y⟩
      · exact ⟨x, .inr (.inl y)⟩
      · exact ⟨hk, .inr (.inr rfl)⟩
    · rintro ⟨x, y | y | y⟩
      · exact .inl ⟨x, .inl y⟩
      · exact .inl ⟨x, .inr y⟩
      · exact .inr y
  mem := fun j hj => by
    rw [List.mem_append, List.mem_singleton] at hj
    rcases hj with hj | rfl
    · exact h.mem j hj
    · exact ⟨hk, (h.mem a (List.mem_of_getElem? ha)).2.step hk hs⟩
  nod := by
    rw [List.nodup_append]
    refine ⟨h.nod, by simp, fun x hx y hy => ?_⟩
    rw [List.mem_singleton] at hy
    subst hy
    intro e
    subst e
    have := (h.don x).2 ⟨hk, .inr hx⟩
    rw [hd] at this
    exact absurd this (by decide)
  self := List.mem_append_left _ h.self
  ple := by have := h.ple; rw [List.length_append]; omega
  clo := fun q b hq hb c hc hsh => by
    have hlt : q < g.length := Nat.lt_of_lt_of_le hq h.ple
    rw [List.getElem?_append_left hlt] at hb
    rw [set_true_iff (by rw [h.len]; exact hk)]
    exact .inl (h.clo q b hq hb c hc hsh)
  cur := fun b hb c hc hcn hsh => by
    have hlt : p < g.length := (List.getElem?_eq_some_iff.1 ha).1
    rw [List.getElem?_append_left hlt] at hb
    rw [set_true_iff (by rw [h.len]; exact hk)]
    rcases Nat.lt_or_eq_of_le (Nat.le_of_lt_succ hc) with h' | rfl
    · exact .inl (h.cur b hb c h' hcn hsh)
    · exact .inr rfl
theorem GI.next {n : Nat} {sh : Nat → Nat → Bool} {i : Nat} {d : List Bool} {g : List Nat} {p : Nat} (h : GI n sh i d g p n) (hp : p < g.length) : GI n sh i d g (p + 1) 0 :=
  { h with
    ple := hp
    clo := fun q a hq ha c hc hs => by
      rcases Nat.lt_or_eq_of_le (Nat.le_of_lt_succ hq) with h' | rfl
      · exact h.clo q a h' ha c hc hs
      · exact h.cur a ha c hc hc hs
    cur := fun a _ c hc => by omega }
theorem GI.all {n : Nat} {sh : Nat → Nat → Bool} {i : Nat} {d : List Bool} {g : List Nat} {k : Nat} (hsy : ∀ a b, sh a b = sh b a) (h : GI n sh i d g g.length k) (j : Nat) : j ∈ g ↔ j < n ∧ Reach n sh i j := by
  constructor
  · exact h.mem j
  · rintro ⟨hj, hr⟩
    induction hr with
    | refl => exact h.self
    | step hr hk hs ih =>
      rename_i x y
      have hx := ih (hr.lt h.lt)
      obtain ⟨q, hq⟩ := List.getElem?_of_mem hx
      have hql := (List.getElem?_eq_some_iff.1 hq).1
      have hd := h.clo q x hql hq y hk hs
      rcases ((h.don y).1 hd).2 with ⟨i', hi', hr'⟩ | hy
      · exfalso
        apply h.new
        exact ⟨i', hi', (hr'.step (h.mem x hx).1 (by rw [hsy]; exact hs)).trans (hr.symm hsy h.lt)⟩
      · exact hy
theorem GI.done {n : Nat} {sh : Nat → Nat → Bool} {i : Nat} {d : List Bool} {g : List Nat} {k : Nat} (hsy : ∀ a b, sh a b = sh b a) (h : GI n sh i d g g.length k) : DoneI n sh (i + 1) d :=
  ⟨h.len, fun j => by
    rw [h.don, old_suc]
    constructor
    · rintro ⟨a, b | b⟩
      · exact ⟨a, .inl b⟩
      · exact ⟨a, .inr (h.mem j b).2⟩
    · rintro ⟨a, b | b⟩
      · exact ⟨a, .inl b⟩
      · exact ⟨a, .inr ((h.all hsy j).2 ⟨a, b⟩)⟩⟩
def natI (l : List Nat) : List Int := l.map (fun j : Nat => (j : Int))
theorem sorted_grp {n : Nat} {sh : Nat → Nat → Bool} {i : Nat} {d : List Bool} {g : List Nat} {k : Nat} (hsy : ∀ a b, sh a b = sh b a) (h : GI n sh i d g g.length k) : (natI g).mergeSort (fun x y => decide (x ≤ y)) = natI (grpOf n sh i) := by
  have hp : g.Perm (grpOf n sh i) := (List.perm_ext_iff_of_nodup h.nod (by unfold grpOf; exact List.nodup_range.filter _)).2 fun j => by rw [h.all hsy, mem_grp]
  have hp2 : ((natI g).mergeSort (fun x y => decide (x ≤ y))).Perm (natI (grpOf n sh i)) := (List.mergeSort_perm _ _).trans (hp.map _)
  refine hp2.eq_of_pairwise (le := fun x y => x ≤ y) (fun a b _ _ h1 h2 => Int.le_antisymm h1 h2) ?_ ?_
  · have := List.pairwise_mergeSort (le := fun x y : Int => decide (x ≤ y)) (fun a b c h1 h2 => by simp only [decide_eq_true_eq] at *; omega) (fun a b => by simp only [Bool.or_eq_true, decide_eq_true_eq]; omega) (natI g)
    simpa using this
  · unfold natI grpOf
    rw [List.pairwise_map]
    refine List.Pairwise.imp ?_ (List.pairwise_lt_range.filter _)
    intro a b hab
    omega
end Go.Proofs.YtgejdaincnclpaaGreat
namespace Go.Proofs.YtgejdaincnclpaaGreat
open Go Go.RowKit
set_option linter.unusedVariables false
set_option maxHeartbeats 2000000 in
theorem cwithin_any (n : Int) (l : List V2) (A : Option Addr) (c : Nat) (w : World) (hl : l.length ≤ 1000000) (hV : VAt w A l) (n0 : 0 ≤ n) (n1 : n ≤ 1000000000) :
    Calls Tryz.prog 19 #[.int .i64 n, .slice A l.length c] w fun e w' => e = .returned (.bool (l.all (nearB n))) ∧ Below w.heap.size w w' := by
  have HV := Lib.hid hV
  obtain ⟨R, hR⟩ : ∃ R, R = l.all (nearB n) := ⟨_, rfl⟩
  rw [← hR]
  have HR := Lib.hid hR
  clear hV hR
  go_enter Tryz.func19, Tryz.ntmps19; (try simp only [List.append_eq, List.cons_append, List.nil_append])
  go_wp2_with fail
  go_loopw [9] (fun t wr => ∃ k : Nat, k ≤ l.length ∧ t = .int .i64 k ∧ Hid ((l.take k).all (nearB n) = true) ∧ Below w.heap.size w wr) (fun t _ => l.length - (intOf t).toNat)
  case atStart => exact ⟨0, by omega, rfl, Lib.hid rfl, Below.refl _ _⟩
  case round =>
    obtain ⟨k, hk, rfl, HA, hb_wr⟩ := hrel
    have hz_wr := hb_wr.size
    have HB := Lib.hid hb_wr
    have i1 : (0 : Int) ≤ (k : Int) := by omega
    by_cases hlt : k < l.length
    · obtain ⟨⟨a, b⟩, hx⟩ : ∃ x, l[k]? = some x := ⟨l[k], by simp⟩
      obtain ⟨g, o, rfl, hg, a0, a1⟩ := (HV.out.below HB.out (Nat.le_refl _)) k _ hx
      have hall := all_take_succ (p := nearB n) hx
      have HX := Lib.hid hx
      have HN := Lib.hid hall
      have i2 : (k : Int) < (l.length : Int) := by omega
      simp only at a0 a1
      clear hb_wr hx hall
      by_cases hin : -n ≤ a ∧ a ≤ n ∧ -n ≤ b ∧ b ≤ n
      · obtain ⟨j1, j2, j3, j4⟩ := hin
        have HN2 := Lib.hid (show (l.take (k + 1)).all (nearB n) = true by rw [HN.out, HA.out]; simp [nearB, withinB]; omega)
        go_wp2_with fail
        go_roundw
        case rel => exact ⟨k + 1, by omega, by go_num, HN2, HB.out.trans (show Below w.heap.size wr _ by ((with_reducible (repeat (first | exact bR _ _ | refine bS ?_ ?_ _ | refine bA ?_ ?_ _ | refine bD ?_ | refine bT ?_ (by assumption) ?_ | refine bO (by assumption) ?_ ?_))) <;> (first | omega | (simp <;> omega))))⟩
        case measure => simp [intOf]; omega
      · have hfin : R = false := by
          rw [HR.out, List.all_eq_false]
          exact ⟨(a, b), List.mem_of_getElem? HX.out, by simp only [nearB, withinB, decide_eq_true_eq]; exact hin⟩
        subst hfin
        have h4 : a < -n ∨ (-n ≤ a ∧ n < a) ∨ (-n ≤ a ∧ a ≤ n ∧ b < -n) ∨ (-n ≤ a ∧ a ≤ n ∧ -n ≤ b ∧ n < b) := by omega
        clear hin
        rcases h4 with h4 | ⟨h4, h5⟩ | ⟨h4, h5, h6⟩ | ⟨h4, h5, h6, h7⟩
        all_goals
          go_wp2_with fail
          go_ret
          exact ⟨rfl, HB.out.trans (show Below w.heap.size wr _ by ((with_reducible (repeat (first | exact bR _ _ | refine bS ?_ ?_ _ | refine bA ?_ ?_ _ | refine bD ?_ | refine bT ?_ (by assumption) ?_ | refine bO (by assumption) ?_ ?_))) <;> (first | omega | (simp <;> omega))))⟩
    · obtain rfl : k = l.length := by omega
      have hfin : R = true := by rw [HR.out]; have := HA.out; rwa [List.take_length] at this
      subst hfin
      clear hb_wr
      go_wp2_with fail
      go_ret
      exact ⟨rfl, HB.out⟩
theorem cwithin_one (n a b : Int) (g : Nat) (w : World) (n0 : 0 ≤ n) (n1 : n ≤ 1000000000) (hg : g < w.heap.size) (h0 : w.cell? ⟨g, 0, none⟩ = some (.int .i64 a)) (h1 : w.cell? ⟨g, 1, none⟩ = some (.int .i64 b)) :
    Calls Tryz.prog 19 #[.int .i64 n, .slice (some ⟨g, 0, none⟩) 1 1] w fun e w' => e = .returned (.bool (withinB a b n)) ∧ Below w.heap.size w w' := by
  have := cwithin_any n [(a, b)] (some ⟨g, 0, none⟩) 1 w (by simp) (fun k x hx => by
    rcases k with _ | k
    · simp only [List.getElem?_cons_zero, Option.some.injEq] at hx
      subst hx
      exact ⟨g, 0, rfl, hg, by simpa using h0, by simpa using h1⟩
    · simp at hx) n0 n1
  simpa [nearB] using this
theorem cwithin_two (n a b c d : Int) (g : Nat) (w : World) (n0 : 0 ≤ n) (n1 : n ≤ 1000000000) (hg : g < w.heap.size) (h0 : w.cell? ⟨g, 0, none⟩ = some (.int .i64 a)) (h1 : w.cell? ⟨g, 1, none⟩ = some (.int .i64 b)) (h2 : w.cell? ⟨g, 2, none⟩ = some (.int .i64 c)) (h3 : w.cell? ⟨g, 3, none⟩ = some (.int .i64 d)) :
    Calls Tryz.prog 19 #[.int .i64 n, .slice (some ⟨g, 0, none⟩) 2 2] w fun e w' => e = .returned (.bool (withinB a b n && withinB c d n)) ∧ Below w.heap.size w w' := by
  have := cwithin_any n [(a, b), (c, d)] (some ⟨g, 0, none⟩) 2 w (by simp) (fun k x hx => by
    rcases k with _ | _ | k
    · simp only [List.getElem?_cons_zero, Option.some.injEq] at hx
      subst hx
      exact ⟨g, 0, rfl, hg, by simpa using h0, by simpa using h1⟩
    · simp only [List.getElem?_cons_succ, List.getElem?_cons_zero, Option.some.injEq] at hx
      subst hx
      exact ⟨g, 0, rfl, hg, by simpa using h2, by simpa using h3⟩
    · simp at hx) n0 n1
  simpa [nearB] using this
def permM (m : Mt) (n : Int) : Bool := decide (0 ≤ m.a ∧ m.a < n ∧ -1 ≤ m.b ∧ m.b < n ∧ ¬ m.a = m.b) && (decide (m.b = -1) || decide (m.w1 = 0 ∧ m.w2 = 0 ∧ m.k1 = 0 ∧ m.k2 = 0)) && (withinB m.n1 m.n2 2097152 && (withinB m.w1 m.w2 1048576 && withinB m.k1 m.k2 1048576) && (sixB m.e && sixB m.g))
set_option maxRecDepth 100000 in
set_option maxHeartbeats 20000000 in
theorem permitted16_any (m : Mt) (n : Int) (w : World) :
    Calls Tryz.prog 20 #[m.v, .int .i64 n] w fun e w' => e = .returned (.bool (permM m n)) ∧ Below w.heap.size w w' := by
  obtain ⟨a, b, n1, n2, x1, x2, y1, y2, e, g⟩ := m
  obtain ⟨R, hR⟩ : ∃ R, R = permM ⟨a, b, n1, n2, x1, x2, y1, y2, e, g⟩ n := ⟨_, rfl⟩
  rw [← hR]
  unfold permM at hR
  simp only [Mt.v] at *
  have k1 := fun g w => cwithin_one 2097152 n1 n2 g w (by omega) (by omega)
  have k2 := fun g w => cwithin_two 1048576 x1 x2 y1 y2 g w (by omega) (by omega)
  generalize withinB n1 n2 2097152 = c1 at *
  generalize (withinB x1 x2 1048576 && withinB y1 y2 1048576) = c2 at *
  have K1 := Lib.hid k1
  have K2 := Lib.hid k2
  clear k1 k2
  by_cases hA : 0 ≤ a ∧ a < n ∧ -1 ≤ b ∧ b < n ∧ ¬ a = b
  · rw [decide_eq_true hA, Bool.true_and] at hR
    obtain ⟨a1, a2, b1, b2, ab⟩ := hA
    have hab : (a != b) = true := by rw [bne_iff_ne]; exact ab
    have hcase : (b = -1) ∨ (¬ b = -1 ∧ ¬ x1 = 0) ∨ (¬ b = -1 ∧ x1 = 0 ∧ ¬ x2 = 0) ∨ (¬ b = -1 ∧ x1 = 0 ∧ x2 = 0 ∧ ¬ y1 = 0) ∨ (¬ b = -1 ∧ x1 = 0 ∧ x2 = 0 ∧ y1 = 0 ∧ ¬ y2 = 0) ∨ (¬ b = -1 ∧ x1 = 0 ∧ x2 = 0 ∧ y1 = 0 ∧ y2 = 0) := by omega
    rcases hcase with h | ⟨h, h2⟩ | ⟨h, rfl, h2⟩ | ⟨h, rfl, rfl, h2⟩ | ⟨h, rfl, rfl, rfl, h2⟩ | ⟨h, rfl, rfl, rfl, rfl⟩
    case inr.inl | inr.inr.inl | inr.inr.inr.inl | inr.inr.inr.inr.inl =>
      have hfin : R = false := by rw [hR]; simp [h, h2]
      subst hfin
      have hb1 : (b == -1) = false := by rw [beq_eq_false_iff_ne]; exact h
      have hz := h2
      clear hR
      go_enter Tryz.func20, Tryz.ntmps20; (try simp only [List.append_eq, List.cons_append, List.nil_append])
      go_wp2_with fail
      go_ret
      exact ⟨rfl, by ((with_reducible (repeat (first | exact bR _ _ | refine bS ?_ ?_ _ | refine bA ?_ ?_ _ | refine bD ?_ | refine bT ?_ (by assumption) ?_ | refine bO (by assumption) ?_ ?_))) <;> (first | omega | (simp <;> omega)))⟩
    all_goals
      have hfin : R = (c1 && c2 && (sixB e && sixB g)) := by rw [hR]; simp [h]
      have HF := Lib.hid hfin
      clear hR hfin
      first
        | subst h
        | have hb1 : (b == -1) = false := by rw [beq_eq_false_iff_ne]; exact h
      go_enter Tryz.func20, Tryz.ntmps20; (try simp only [List.append_eq, List.cons_append, List.nil_append])
      go_wp2_with fail
      (go_at_call 19; refine (K1.out _ _ (by simp) (by go_simp) (by go_simp)).mono ?_; rintro e w1 ⟨rfl, hb_w1⟩; have hz_w1 := hb_w1.size; (try simp at hz_w1); (with_reducible apply cel10 (b := w.heap.size) hb_w1); (focus ((try simp) <;> omega)); (focus omega); (iterate 10 (focus (go_simp; try exact rfl))); (focus (intro o; go_simp)); intro cc cc cc cc cc cc cc cc cc cc fz hl; (with_reducible apply cel2 (b := w.heap.size + 1) hb_w1); (focus ((try simp) <;> omega)); (focus omega); (iterate 2 (focus (go_simp; try exact rfl))); (focus (intro o; go_simp)); intro cc cc fz hl)
      cases c1
      · have hr : R = false := by rw [HF.out]; rfl
        subst hr
        go_wp2_with fail
        go_ret
        exact ⟨rfl, by ((with_reducible (repeat (first | exact bR _ _ | refine bS ?_ ?_ _ | refine bA ?_ ?_ _ | refine bD ?_ | refine bT ?_ (by assumption) ?_ | refine bO (by assumption) ?_ ?_))) <;> (first | omega | (simp <;> omega)))⟩
      · go_wp2_with fail
        (go_at_call 19; refine (K2.out _ _ (by simp) (by go_simp) (by go_simp) (by go_simp) (by go_simp)).mono ?_; rintro e w2 ⟨rfl, hb_w2⟩; have hz_w2 := hb_w2.size; (try simp at hz_w2); (with_reducible apply cel10 (b := w.heap.size) hb_w2); (focus ((try simp) <;> omega)); (focus omega); (iterate 10 (focus (go_simp; try exact rfl))); (focus (intro o; go_simp)); intro cc cc cc cc cc cc cc cc cc cc fz hl; (with_reducible apply cel2 (b := w.heap.size + 1) hb_w2); (focus ((try simp) <;> omega)); (focus omega); (iterate 2 (focus (go_simp; try exact rfl))); (focus (intro o; go_simp)); intro cc cc fz hl)
        cases c2
        · have hr : R = false := by rw [HF.out]; rfl
          subst hr
          go_wp2_with fail
          go_ret
          exact ⟨rfl, by ((with_reducible (repeat (first | exact bR _ _ | refine bS ?_ ?_ _ | refine bA ?_ ?_ _ | refine bD ?_ | refine bT ?_ (by assumption) ?_ | refine bO (by assumption) ?_ ?_))) <;> (first | omega | (simp <;> omega)))⟩
        · have h4 : e < 0 ∨ (0 ≤ e ∧ 15 < e) ∨ (0 ≤ e ∧ e ≤ 15 ∧ g < 0) ∨ (0 ≤ e ∧ e ≤ 15 ∧ 0 ≤ g ∧ 15 < g) ∨ (0 ≤ e ∧ e ≤ 15 ∧ 0 ≤ g ∧ g ≤ 15) := by omega
          rcases h4 with h4 | ⟨h4, h5⟩ | ⟨h4, h5, h6⟩ | ⟨h4, h5, h6, h7⟩ | ⟨h4, h5, h6, h7⟩
          case inr.inr.inr.inr =>
            have hr : R = true := by rw [HF.out]; simp only [sixB, Bool.true_and, Bool.and_eq_true, decide_eq_true_eq]; omega
            subst hr
            go_wp2_with fail
            go_ret
            exact ⟨rfl, by ((with_reducible (repeat (first | exact bR _ _ | refine bS ?_ ?_ _ | refine bA ?_ ?_ _ | refine bD ?_ | refine bT ?_ (by assumption) ?_ | refine bO (by assumption) ?_ ?_))) <;> (first | omega | (simp <;> omega)))⟩
          all_goals
            have hr : R = false := by rw [HF.out]; simp only [sixB, Bool.true_and, Bool.and_eq_false_iff, decide_eq_false_iff_not]; omega
            subst hr
            go_wp2_with fail
            go_ret
            refine ⟨?_, by ((with_reducible (repeat (first | exact bR _ _ | refine bS ?_ ?_ _ | refine bA ?_ ?_ _ | refine bD ?_ | refine bT ?_ (by assumption) ?_ | refine bO (by assumption) ?_ ?_))) <;> (first | omega | (simp <;> omega)))⟩
            first | rfl | (show Ending.returned (.bool (decide (g ≤ 15))) = _; rw [decide_eq_false (by omega)])
  · have hfin : R = false := by rw [hR, decide_eq_false hA]; rfl
    subst hfin
    have h4 : a < 0 ∨ (0 ≤ a ∧ n ≤ a) ∨ (0 ≤ a ∧ a < n ∧ b < -1) ∨ (0 ≤ a ∧ a < n ∧ -1 ≤ b ∧ n ≤ b) ∨ (0 ≤ a ∧ a < n ∧ -1 ≤ b ∧ b < n ∧ a = b) := by omega
    clear hA hR
    rcases h4 with h4 | ⟨h4, h5⟩ | ⟨h4, h5, h6⟩ | ⟨h4, h5, h6, h7⟩ | ⟨h4, h5, h6, h7, h8⟩
    case inr.inr.inr.inr =>
      subst h8
      have hbb : (a == -1) = false := by rw [beq_eq_false_iff_ne]; omega
      go_enter Tryz.func20, Tryz.ntmps20; (try simp only [List.append_eq, List.cons_append, List.nil_append])
      go_wp2_with fail
      go_ret
      exact ⟨rfl, by ((with_reducible (repeat (first | exact bR _ _ | refine bS ?_ ?_ _ | refine bA ?_ ?_ _ | refine bD ?_ | refine bT ?_ (by assumption) ?_ | refine bO (by assumption) ?_ ?_))) <;> (first | omega | (simp <;> omega)))⟩
    all_goals
      cases hbb : (b == -1)
      all_goals
        go_enter Tryz.func20, Tryz.ntmps20; (try simp only [List.append_eq, List.cons_append, List.nil_append])
        go_wp2_with fail
        go_ret
        exact ⟨rfl, by ((with_reducible (repeat (first | exact bR _ _ | refine bS ?_ ?_ _ | refine bA ?_ ?_ _ | refine bD ?_ | refine bT ?_ (by assumption) ?_ | refine bO (by assumption) ?_ ?_))) <;> (first | omega | (simp <;> omega)))⟩
set_option maxRecDepth 100000 in
set_option maxHeartbeats 8000000 in
theorem rone_any (v u n k d rest grip : Int) (den : Value) (w : World) (hs : SmX v u n d k rest grip) (hden : IsC w den (16 * d)) :
    Calls Tryz.prog 43 #[.int .i64 v, .int .i64 u, .int .i64 n, .int .i64 k, den, .int .i64 d, .int .i64 rest, .int .i64 grip] w (ZOut (statX v u n d k rest grip) w) := by
  obtain ⟨⟨p1, p2⟩, ⟨p3, p4⟩, p5, p6⟩ := hs.parts
  have hlen := hs.len
  obtain ⟨⟨v1, v2⟩, ⟨u1, u2⟩, ⟨n1, n2⟩, ⟨m1, m2⟩, ⟨c1, c2⟩, ⟨r1, r2⟩, ⟨e1, e2⟩⟩ := hs
  have k1 := fun w => of_any v w (by omega) (by omega)
  have k2 := fun x y w h1 h2 => times_any 10 x y v (16 * d) w h1 h2 (by omega)
  have k3 := fun w => rscaled_any (16 + rest - grip) k w (by omega) (by omega)
  have k4 := fun w => of_any n w (by omega) (by omega)
  have k5 := fun x y w h1 h2 => times_any 10 x y ((16 + rest - grip) * k) n w h1 h2 (by omega)
  have k6 := fun w => rscaled_any grip u w (by omega) (by omega)
  have k7 := fun w => of_any d w (by omega) (by omega)
  have k8 := fun x y w h1 h2 => times_any 10 x y (grip * u) d w h1 h2 (by omega)
  have k9 := fun x y w h1 h2 => minus_any 10 x y (v * (16 * d)) ((16 + rest - grip) * k * n) w h1 h2 (by omega)
  have k10 := fun x y w h1 h2 => minus_any 10 x y (v * (16 * d) - (16 + rest - grip) * k * n) (grip * u * d) w h1 h2 (by omega)
  have b1 := mulB v (16 * d) 4194304 (16 * 17592186044416) (by omega) (by omega)
  have b2 := mulB (16 + rest - grip) k 31 17592186044416 (by omega) (by omega)
  have b3 := mulB ((16 + rest - grip) * k) n (31 * 17592186044416) 4194304 (by omega) (by omega)
  have b4 := mulB (grip * u) d 62914560 17592186044416 (by omega) (by omega)
  have es : v * (16 * d) - (16 + rest - grip) * k * n - grip * u * d = statX v u n d k rest grip := by unfold statX; grind
  have l1 := len_wd (z := v) (by omega) (by omega)
  have l2 := len_wd (z := 16 * d) (by omega) (by omega)
  have l3 : (canN (v * (16 * d)).natAbs).length ≤ 10 := canN_bd (B := 18446744073709551616 * 18446744073709551616) (by omega) (by omega) (by decide)
  have l4 : (canN ((16 + rest - grip) * k).natAbs).length ≤ 10 := canN_bd (B := 18446744073709551616 * 18446744073709551616) (by omega) (by omega) (by decide)
  have l5 := len_wd (z := n) (by omega) (by omega)
  have l6 : (canN ((16 + rest - grip) * k * n).natAbs).length ≤ 10 := canN_bd (B := 18446744073709551616 * 18446744073709551616) (by omega) (by omega) (by decide)
  have l7 := len_wd (z := grip * u) (by omega) (by omega)
  have l8 := len_wd (z := d) (by omega) (by omega)
  have l9 : (canN (grip * u * d).natAbs).length ≤ 10 := canN_bd (B := 18446744073709551616 * 18446744073709551616) (by omega) (by omega) (by decide)
  have l10 : (canN (v * (16 * d) - (16 + rest - grip) * k * n).natAbs).length ≤ 10 := canN_bd (B := 18446744073709551616 * 18446744073709551616) (by omega) (by omega) (by decide)
  rw [es] at k10
  generalize statX v u n d k rest grip = Z at *
  generalize v * (16 * d) - (16 + rest - grip) * k * n = Z4 at *
  generalize v * (16 * d) = Z1 at *
  generalize (16 + rest - grip) * k * n = Z2 at *
  generalize grip * u * d = Z3 at *
  generalize (16 + rest - grip) * k = Z5 at *
  generalize grip * u = Z6 at *
  have K1 := Lib.hid k1
  have K2 := Lib.hid k2
  have K3 := Lib.hid k3
  have K4 := Lib.hid k4
  have K5 := Lib.hid k5
  have K6 := Lib.hid k6
  have K7 := Lib.hid k7
  have K8 := Lib.hid k8
  have K9 := Lib.hid k9
  have K10 := Lib.hid k10
  have L1 := Lib.hid l1
  have L2 := Lib.hid l2
  have L3 := Lib.hid l3
  have L4 := Lib.hid l4
  have L5 := Lib.hid l5
  have L6 := Lib.hid l6
  have L7 := Lib.hid l7
  have L8 := Lib.hid l8
  have L9 := Lib.hid l9
  have L10 := Lib.hid l10
  obtain ⟨s0, A0, n0, c0, rfl⟩ := hden.val
  have H0 := Lib.hid hden
  clear k1 k2 k3 k4 k5 k6 k7 k8 k9 k10 l1 l2 l3 l4 l5 l6 l7 l8 l9 l10 hlen p1 p2 p3 p4 p5 p6 b1 b2 b3 b4 es hden
  go_enter Tryz.func43, Tryz.ntmps43; (try simp only [List.append_eq, List.cons_append, List.nil_append])
  go_wp2_with fail
  (refine pin_wp (N := _) (Nat.le_refl _) (fun w2 hb_w2 hz_w2 => ?_); (try simp at hz_w2); (with_reducible apply cel2 (b := w.heap.size) hb_w2); (focus ((try simp) <;> omega)); (focus omega); (iterate 2 (focus (go_simp; try exact rfl))); (focus (intro o; go_simp)); intro c_w2_0_0 c_w2_0_1 fz_w2_0 hl_w2_0; (with_reducible apply cel2 (b := w.heap.size + 1) hb_w2); (focus ((try simp) <;> omega)); (focus omega); (iterate 2 (focus (go_simp; try exact rfl))); (focus (intro o; go_simp)); intro c_w2_1_0 c_w2_1_1 fz_w2_1 hl_w2_1); refine wp_q (fun Q_ HQ_ => ?_); refine wp_region_floatQ w2.heap.size 5 [5] (Nat.le_refl _) (fun _ => True) trivial Cl.tt (by kernel_rfl) (by kernel_rfl) ?_
  replace H0 := Lib.hid (IsC.below (v := .agg #[.bool s0, .slice A0 n0 c0]) (z := (16 * d)) (by ((repeat (first | (with_reducible exact H0.out) | (with_reducible refine IsC.al ?_ _) | (with_reducible apply IsC.st1))) <;> (first | (with_reducible assumption) | (intro _ e; cases e; done) | (go_simp; first | done | exact rfl)))) hb_w2)
  have HB2 := Lib.hid (show Below w.heap.size w w2 by ((with_reducible (repeat (first | exact bR _ _ | refine bS ?_ ?_ _ | refine bA ?_ ?_ _ | refine bD ?_ | refine bT ?_ (by assumption) ?_ | refine bO (by assumption) ?_ ?_))) <;> (first | omega | (simp <;> omega))))
  have hz2 : w.heap.size + 1 + 1 ≤ w2.heap.size := by omega
  clear hb_w2
  skip
  refine wpQI_start [0] ?_; (iterate 1 (first | (apply wpQI_step (by with_reducible (refine zA ?_; (repeat (first | exact zB | refine zC ?_)))) (by kernel_rfl) (by exact rfl); (focus (intro W' hS; have hcS := hS.cells.1; have hfS := hS.cells.2; go_simp; (first | done | exact rfl | exact bB _ | (go_simp; first | done | exact rfl | exact bB _)))); intro K hK; go_simp; (try go_bits); refine hK _ ?_; clear hK K))); refine wpQI_nil ?_
  refine wpQI_start [2] ?_; (iterate 1 (first | (apply wpQI_step (by with_reducible (refine zA ?_; (repeat (first | exact zB | refine zC ?_)))) (by kernel_rfl) (by exact rfl); (focus (intro W' hS; have hcS := hS.cells.1; have hfS := hS.cells.2; go_simp; (first | done | exact rfl | exact bB _ | (go_simp; first | done | exact rfl | exact bB _)))); intro K hK; go_simp; (try go_bits); refine hK _ ?_; clear hK K))); refine wpQI_nil ?_
  apply wpQ_call (i := 1) (by with_reducible (refine zA ?_; (repeat (first | exact zB | refine zC ?_)))) (by kernel_rfl) (by exact rfl); intro W hF hS; have hcS := hS.1.cells.1; have hfS := hS.1.cells.2; go_simp; (go_at_call 44; refine (K1.out _).mono ?_; rintro e w3 ⟨hb_w3, v3, rfl, hv3⟩; refine XPost.mk _ (fun W => IsC W v3 (v)) hb_w3 (hv3) (IsC.cl _ _) ?_); clear hb_w3 hcS hfS hS hF
  intro K hK; go_simp; (try go_bits); refine hK _ ?_; clear hK K
  obtain ⟨s3, A3, n3, c3, rfl⟩ := IsC.val hv3
  clear hv3
  apply wpQ_call (i := 3) (by with_reducible (refine zA ?_; (repeat (first | exact zB | refine zC ?_)))) (by kernel_rfl) (by exact rfl); intro W hF hS; have hcS := hS.1.cells.1; have hfS := hS.1.cells.2; go_simp; (go_at_call 40; refine (K2.out _ _ _ (hF.zl L1.out) ((H0.out.below hS.1.2).zl L2.out)).mono ?_; rintro e w4 ⟨hb_w4, v4, rfl, hv4⟩; refine XPost.mk _ (fun W => IsC W v4 (Z1)) hb_w4 (hv4) (IsC.cl _ _) ?_); clear hb_w4 hcS hfS hS hF
  intro K hK; go_simp; (try go_bits); refine hK _ ?_; clear hK K
  obtain ⟨s4, A4, n4, c4, rfl⟩ := IsC.val hv4
  clear hv4
  apply wpQ_fresh (i := 4) LInv.std (by with_reducible (refine zA ?_; (repeat (first | exact zB | refine zC ?_)))) (by kernel_rfl) (fun g => Value.pointer (some ⟨g, 0, none⟩)) (by exact rfl); (focus (intro W; go_simp; first | done | exact rfl | exact ⟨rfl, rfl⟩))
  intro g_r1_4 hN_r1_4 hG_r1_4 K hK
  go_simp; refine hK _ ?_; clear hK K
  have hne : w.heap.size ≠ g_r1_4 := by have := hN_r1_4; omega
  have hne := Ne.symm hne
  have hne : w.heap.size + 1 ≠ g_r1_4 := by have := hN_r1_4; omega
  have hne := Ne.symm hne
  refine wpQ_done (by kernel_rfl) ?_
  intro w5 hF_w5 hSG
  have hz_w5 := hSG.1.1
  have hb_w5 := hSG.1.2
  have hB_r1_4 := (hSG.2 _ (List.mem_cons_self ..)).2; simp only at hB_r1_4; have hl_r1_4 := (hSG.size (List.mem_cons_self ..)); simp only at hl_r1_4
  have c_w5_r1_4_0 := cell_of_row w5 g_r1_4 0 _ _ _ hB_r1_4; simp only [List.getElem?_toArray, List.getElem?_cons_zero] at c_w5_r1_4_0
  have c_w5_r1_4_1 := cell_of_row w5 g_r1_4 1 _ _ _ hB_r1_4; simp only [List.getElem?_toArray, List.getElem?_cons_zero, List.getElem?_cons_succ] at c_w5_r1_4_1
  have fz_w5_r1_4 : (∀ o, w5.frozen? ⟨g_r1_4, o, none⟩ = false) := (fun o => frozen_of_row w5 g_r1_4 o _ _ hB_r1_4); have HH_r1_4 := Lib.hid hB_r1_4; clear hB_r1_4
  clear hSG
  (with_reducible apply cel2 (b := w.heap.size) hb_w5); (focus ((try simp) <;> omega)); (focus omega); (iterate 2 (focus (go_simp; try exact rfl))); (focus (intro o; go_simp)); intro c_w5_0_0 c_w5_0_1 fz_w5_0 hl_w5_0; (with_reducible apply cel2 (b := w.heap.size + 1) hb_w5); (focus ((try simp) <;> omega)); (focus omega); (iterate 2 (focus (go_simp; try exact rfl))); (focus (intro o; go_simp)); intro c_w5_1_0 c_w5_1_1 fz_w5_1 hl_w5_1
  (try simp only [List.filterMap_cons, List.filterMap_nil, List.getElem?_cons_succ, List.getElem?_cons_zero])
  clear H0
  have H3 := Lib.hid (show IsC w5 (.agg #[.bool s3, .slice A3 n3 c3]) (v) from hF_w5.1)
  have H4 := Lib.hid (show IsC w5 (.agg #[.bool s4, .slice A4 n4 c4]) (Z1) from hF_w5.2)
  have HB5 := Lib.hid (HB2.out.trans (hb_w5.mono (by have := HB2.out.size; omega)))
  have hz5 : w.heap.size + 1 + 1 ≤ w5.heap.size := by omega
  have hn_r1_4 : w.heap.size + 1 + 1 ≤ g_r1_4 := by have := hN_r1_4; omega
  clear hF_w5 hb_w5 HH_r1_4 hG_r1_4 hN_r1_4
  clear c_w2_0_0 c_w2_0_1 fz_w2_0 hl_w2_0 c_w2_1_0 c_w2_1_1 fz_w2_1 hl_w2_1
  go_wp2_with fail
  refine HQ_.out _ _ _ ?_
  clear HQ_ Q_
  go_wp2_with fail
  (go_at_call 42; refine (K3.out _).mono ?_; rintro e w6 ⟨hb_w6, v6, rfl, hv6⟩; have hz_w6 := hb_w6.size; (try simp at hz_w6); (with_reducible apply cel2 (b := w.heap.size + 1) hb_w6); (focus ((try simp) <;> omega)); (focus omega); (iterate 2 (focus (go_simp; try exact rfl))); (focus (intro o; go_simp)); intro c_w6_0_0 c_w6_0_1 fz_w6_0 hl_w6_0; (with_reducible apply cel2 (b := g_r1_4) hb_w6); (focus ((try simp) <;> omega)); (focus omega); (iterate 2 (focus (go_simp; try exact rfl))); (focus (intro o; go_simp)); intro c_w6_1_0 c_w6_1_1 fz_w6_1 hl_w6_1)
  obtain ⟨s6, A6, n6, c6, rfl⟩ := IsC.val hv6
  clear H3
  replace H4 := Lib.hid (IsC.below (v := .agg #[.bool s4, .slice A4 n4 c4]) (z := Z1) (by ((repeat (first | (with_reducible exact H4.out) | (with_reducible refine IsC.al ?_ _) | (with_reducible apply IsC.st1))) <;> (first | (with_reducible assumption) | (intro _ e; cases e; done) | (go_simp; first | done | exact rfl)))) hb_w6)
  have HB6 := Lib.hid (show Below w.heap.size w w6 by have hB := HB5.out; ((with_reducible (repeat (first | exact bR _ _ | refine bS ?_ ?_ _ | refine bA ?_ ?_ _ | refine bD ?_ | refine bT ?_ (by assumption) ?_ | refine bO (by assumption) ?_ ?_))) <;> (first | omega | (simp <;> omega))))
  have hz6 : w.heap.size + 1 + 1 ≤ w6.heap.size := by omega
  clear hb_w6
  clear c_w5_r1_4_0 c_w5_r1_4_1 fz_w5_r1_4 c_w5_0_0 c_w5_0_1 fz_w5_0 hl_w5_0 c_w5_1_0 c_w5_1_1 fz_w5_1 hl_w5_1
  have H6 := Lib.hid (show IsC w6 (.agg #[.bool s6, .slice A6 n6 c6]) (Z5) from hv6)
  clear hv6
  go_wp2_with fail
  (go_at_call 44; refine (K4.out _).mono ?_; rintro e w7 ⟨hb_w7, v7, rfl, hv7⟩; have hz_w7 := hb_w7.size; (try simp at hz_w7); (with_reducible apply cel2 (b := w.heap.size + 1) hb_w7); (focus ((try simp) <;> omega)); (focus omega); (iterate 2 (focus (go_simp; try exact rfl))); (focus (intro o; go_simp)); intro c_w7_0_0 c_w7_0_1 fz_w7_0 hl_w7_0; (with_reducible apply cel2 (b := g_r1_4) hb_w7); (focus ((try simp) <;> omega)); (focus omega); (iterate 2 (focus (go_simp; try exact rfl))); (focus (intro o; go_simp)); intro c_w7_1_0 c_w7_1_1 fz_w7_1 hl_w7_1)
  obtain ⟨s7, A7, n7, c7, rfl⟩ := IsC.val hv7
  replace H4 := Lib.hid (IsC.below (v := .agg #[.bool s4, .slice A4 n4 c4]) (z := Z1) (by ((repeat (first | (with_reducible exact H4.out) | (with_reducible refine IsC.al ?_ _) | (with_reducible apply IsC.st1))) <;> (first | (with_reducible assumption) | (intro _ e; cases e; done) | (go_simp; first | done | exact rfl)))) hb_w7)
  replace H6 := Lib.hid (IsC.below (v := .agg #[.bool s6, .slice A6 n6 c6]) (z := Z5) (by ((repeat (first | (with_reducible exact H6.out) | (with_reducible refine IsC.al ?_ _) | (with_reducible apply IsC.st1))) <;> (first | (with_reducible assumption) | (intro _ e; cases e; done) | (go_simp; first | done | exact rfl)))) hb_w7)
  have HB7 := Lib.hid (show Below w.heap.size w w7 by have hB := HB6.out; ((with_reducible (repeat (first | exact bR _ _ | refine bS ?_ ?_ _ | refine bA ?_ ?_ _ | refine bD ?_ | refine bT ?_ (by assumption) ?_ | refine bO (by assumption) ?_ ?_))) <;> (first | omega | (simp <;> omega))))
  have hz7 : w.heap.size + 1 + 1 ≤ w7.heap.size := by omega
  clear hb_w7
  clear c_w6_0_0 c_w6_0_1 fz_w6_0 hl_w6_0 c_w6_1_0 c_w6_1_1 fz_w6_1 hl_w6_1
  have H7 := Lib.hid (show IsC w7 (.agg #[.bool s7, .slice A7 n7 c7]) (n) from hv7)
  clear hv7
  go_wp2_with fail
  (go_at_call 40; refine (K5.out _ _ _ ((show IsC _ (.agg #[.bool s6, .slice A6 n6 c6]) (Z5) by ((repeat (first | (with_reducible exact H6.out) | (with_reducible refine IsC.al ?_ _) | (with_reducible apply IsC.st1))) <;> (first | (with_reducible assumption) | (intro _ e; cases e; done) | (go_simp; first | done | exact rfl)))).zl L4.out) ((show IsC _ (.agg #[.bool s7, .slice A7 n7 c7]) (n) by ((repeat (first | (with_reducible exact H7.out) | (with_reducible refine IsC.al ?_ _) | (with_reducible apply IsC.st1))) <;> (first | (with_reducible assumption) | (intro _ e; cases e; done) | (go_simp; first | done | exact rfl)))).zl L5.out)).mono ?_; rintro e w8 ⟨hb_w8, v8, rfl, hv8⟩; have hz_w8 := hb_w8.size; (try simp at hz_w8); (with_reducible apply cel2 (b := w.heap.size + 1) hb_w8); (focus ((try simp) <;> omega)); (focus omega); (iterate 2 (focus (go_simp; try exact rfl))); (focus (intro o; go_simp)); intro c_w8_0_0 c_w8_0_1 fz_w8_0 hl_w8_0; (with_reducible apply cel2 (b := g_r1_4) hb_w8); (focus ((try simp) <;> omega)); (focus omega); (iterate 2 (focus (go_simp; try exact rfl))); (focus (intro o; go_simp)); intro c_w8_1_0 c_w8_1_1 fz_w8_1 hl_w8_1)
  obtain ⟨s8, A8, n8, c8, rfl⟩ := IsC.val hv8
  clear H6
  clear H7
  replace H4 := Lib.hid (IsC.below (v := .agg #[.bool s4, .slice A4 n4 c4]) (z := Z1) (by ((repeat (first | (with_reducible exact H4.out) | (with_reducible refine IsC.al ?_ _) | (with_reducible apply IsC.st1))) <;> (first | (with_reducible assumption) | (intro _ e; cases e; done) | (go_simp; first | done | exact rfl)))) hb_w8)
  have HB8 := Lib.hid (show Below w.heap.size w w8 by have hB := HB7.out; ((with_reducible (repeat (first | exact bR _ _ | refine bS ?_ ?_ _ | refine bA ?_ ?_ _ | refine bD ?_ | refine bT ?_ (by assumption) ?_ | refine bO (by assumption) ?_ ?_))) <;> (first | omega | (simp <;> omega))))
  have hz8 : w.heap.size + 1 + 1 ≤ w8.heap.size := by omega
  clear hb_w8
  clear c_w7_0_0 c_w7_0_1 fz_w7_0 hl_w7_0 c_w7_1_0 c_w7_1_1 fz_w7_1 hl_w7_1
  have H8 := Lib.hid (show IsC w8 (.agg #[.bool s8, .slice A8 n8 c8]) (Z2) from hv8)
  clear hv8
  go_wp2_with fail
  (go_at_call 42; refine (K6.out _).mono ?_; rintro e w9 ⟨hb_w9, v9, rfl, hv9⟩; have hz_w9 := hb_w9.size; (try simp at hz_w9); (with_reducible apply cel2 (b := w.heap.size + 1) hb_w9); (focus ((try simp) <;> omega)); (focus omega); (iterate 2 (focus (go_simp; try exact rfl))); (focus (intro o; go_simp)); intro c_w9_0_0 c_w9_0_1 fz_w9_0 hl_w9_0; (with_reducible apply cel2 (b := g_r1_4) hb_w9); (focus ((try simp) <;> omega)); (focus omega); (iterate 2 (focus (go_simp; try exact rfl))); (focus (intro o; go_simp)); intro c_w9_1_0 c_w9_1_1 fz_w9_1 hl_w9_1; (with_reducible apply cel2 (b := w8.heap.size) hb_w9); (focus ((try simp) <;> omega)); (focus omega); (iterate 2 (focus (go_simp; try exact rfl))); (focus (intro o; go_simp)); intro c_w9_2_0 c_w9_2_1 fz_w9_2 hl_w9_2)
  obtain ⟨s9, A9, n9, c9, rfl⟩ := IsC.val hv9
  replace H4 := Lib.hid (IsC.below (v := .agg #[.bool s4, .slice A4 n4 c4]) (z := Z1) (by ((repeat (first | (with_reducible exact H4.out) | (with_reducible refine IsC.al ?_ _) | (with_reducible apply IsC.st1))) <;> (first | (with_reducible assumption) | (intro _ e; cases e; done) | (go_simp; first | done | exact rfl)))) hb_w9)
  replace H8 := Lib.hid (IsC.below (v := .agg #[.bool s8, .slice A8 n8 c8]) (z := Z2) (by ((repeat (first | (with_reducible exact H8.out) | (with_reducible refine IsC.al ?_ _) | (with_reducible apply IsC.st1))) <;> (first | (with_reducible assumption) | (intro _ e; cases e; done) | (go_simp; first | done | exact rfl)))) hb_w9)
  have HB9 := Lib.hid (show Below w.heap.size w w9 by have hB := HB8.out; ((with_reducible (repeat (first | exact bR _ _ | refine bS ?_ ?_ _ | refine bA ?_ ?_ _ | refine bD ?_ | refine bT ?_ (by assumption) ?_ | refine bO (by assumption) ?_ ?_))) <;> (first | omega | (simp <;> omega))))
  have hz9 : w.heap.size + 1 + 1 ≤ w9.heap.size := by omega
  clear hb_w9
  clear c_w8_0_0 c_w8_0_1 fz_w8_0 hl_w8_0 c_w8_1_0 c_w8_1_1 fz_w8_1 hl_w8_1
  have H9 := Lib.hid (show IsC w9 (.agg #[.bool s9, .slice A9 n9 c9]) (Z6) from hv9)
  clear hv9
  go_wp2_with fail
  (go_at_call 44; refine (K7.out _).mono ?_; rintro e w10 ⟨hb_w10, v10, rfl, hv10⟩; have hz_w10 := hb_w10.size; (try simp at hz_w10); (with_reducible apply cel2 (b := w.heap.size + 1) hb_w10); (focus ((try simp) <;> omega)); (focus omega); (iterate 2 (focus (go_simp; try exact rfl))); (focus (intro o; go_simp)); intro c_w10_0_0 c_w10_0_1 fz_w10_0 hl_w10_0; (with_reducible apply cel2 (b := g_r1_4) hb_w10); (focus ((try simp) <;> omega)); (focus omega); (iterate 2 (focus (go_simp; try exact rfl))); (focus (intro o; go_simp)); intro c_w10_1_0 c_w10_1_1 fz_w10_1 hl_w10_1; (with_reducible apply cel2 (b := w8.heap.size) hb_w10); (focus ((try simp) <;> omega)); (focus omega); (iterate 2 (focus (go_simp; try exact rfl))); (focus (intro o; go_simp)); intro c_w10_2_0 c_w10_2_1 fz_w10_2 hl_w10_2)
  obtain ⟨s10, A10, n10, c10, rfl⟩ := IsC.val hv10
  replace H4 := Lib.hid (IsC.below (v := .agg #[.bool s4, .slice A4 n4 c4]) (z := Z1) (by ((repeat (first | (with_reducible exact H4.out) | (with_reducible refine IsC.al ?_ _) | (with_reducible apply IsC.st1))) <;> (first | (with_reducible assumption) | (intro _ e; cases e; done) | (go_simp; first | done | exact rfl)))) hb_w10)
  replace H8 := Lib.hid (IsC.below (v := .agg #[.bool s8, .slice A8 n8 c8]) (z := Z2) (by ((repeat (first | (with_reducible exact H8.out) | (with_reducible refine IsC.al ?_ _) | (with_reducible apply IsC.st1))) <;> (first | (with_reducible assumption) | (intro _ e; cases e; done) | (go_simp; first | done | exact rfl)))) hb_w10)
  replace H9 := Lib.hid (IsC.below (v := .agg #[.bool s9, .slice A9 n9 c9]) (z := Z6) (by ((repeat (first | (with_reducible exact H9.out) | (with_reducible refine IsC.al ?_ _) | (with_reducible apply IsC.st1))) <;> (first | (with_reducible assumption) | (intro _ e; cases e; done) | (go_simp; first | done | exact rfl)))) hb_w10)
  have HB10 := Lib.hid (show Below w.heap.size w w10 by have hB := HB9.out; ((with_reducible (repeat (first | exact bR _ _ | refine bS ?_ ?_ _ | refine bA ?_ ?_ _ | refine bD ?_ | refine bT ?_ (by assumption) ?_ | refine bO (by assumption) ?_ ?_))) <;> (first | omega | (simp <;> omega))))
  have hz10 : w.heap.size + 1 + 1 ≤ w10.heap.size := by omega
  clear hb_w10
  clear c_w9_0_0 c_w9_0_1 fz_w9_0 hl_w9_0 c_w9_1_0 c_w9_1_1 fz_w9_1 hl_w9_1 c_w9_2_0 c_w9_2_1 fz_w9_2 hl_w9_2
  have H10 := Lib.hid (show IsC w10 (.agg #[.bool s10, .slice A10 n10 c10]) (d) from hv10)
  clear hv10
  go_wp2_with fail
  (go_at_call 40; refine (K8.out _ _ _ ((show IsC _ (.agg #[.bool s9, .slice A9 n9 c9]) (Z6) by ((repeat (first | (with_reducible exact H9.out) | (with_reducible refine IsC.al ?_ _) | (with_reducible apply IsC.st1))) <;> (first | (with_reducible assumption) | (intro _ e; cases e; done) | (go_simp; first | done | exact rfl)))).zl L7.out) ((show IsC _ (.agg #[.bool s10, .slice A10 n10 c10]) (d) by ((repeat (first | (with_reducible exact H10.out) | (with_reducible refine IsC.al ?_ _) | (with_reducible apply IsC.st1))) <;> (first | (with_reducible assumption) | (intro _ e; cases e; done) | (go_simp; first | done | exact rfl)))).zl L8.out)).mono ?_; rintro e w11 ⟨hb_w11, v11, rfl, hv11⟩; have hz_w11 := hb_w11.size; (try simp at hz_w11); (with_reducible apply cel2 (b := w.heap.size + 1) hb_w11); (focus ((try simp) <;> omega)); (focus omega); (iterate 2 (focus (go_simp; try exact rfl))); (focus (intro o; go_simp)); intro c_w11_0_0 c_w11_0_1 fz_w11_0 hl_w11_0; (with_reducible apply cel2 (b := g_r1_4) hb_w11); (focus ((try simp) <;> omega)); (focus omega); (iterate 2 (focus (go_simp; try exact rfl))); (focus (intro o; go_simp)); intro c_w11_1_0 c_w11_1_1 fz_w11_1 hl_w11_1; (with_reducible apply cel2 (b := w8.heap.size) hb_w11); (focus ((try simp) <;> omega)); (focus omega); (iterate 2 (focus (go_simp; try exact rfl))); (focus (intro o; go_simp)); intro c_w11_2_0 c_w11_2_1 fz_w11_2 hl_w11_2)
  obtain ⟨s11, A11, n11, c11, rfl⟩ := IsC.val hv11
  clear H9
  clear H10
  replace H4 := Lib.hid (IsC.below (v := .agg #[.bool s4, .slice A4 n4 c4]) (z := Z1) (by ((repeat (first | (with_reducible exact H4.out) | (with_reducible refine IsC.al ?_ _) | (with_reducible apply IsC.st1))) <;> (first | (with_reducible assumption) | (intro _ e; cases e; done) | (go_simp; first | done | exact rfl)))) hb_w11)
  replace H8 := Lib.hid (IsC.below (v := .agg #[.bool s8, .slice A8 n8 c8]) (z := Z2) (by ((repeat (first | (with_reducible exact H8.out) | (with_reducible refine IsC.al ?_ _) | (with_reducible apply IsC.st1))) <;> (first | (with_reducible assumption) | (intro _ e; cases e; done) | (go_simp; first | done | exact rfl)))) hb_w11)
  have HB11 := Lib.hid (show Below w.heap.size w w11 by have hB := HB10.out; ((with_reducible (repeat (first | exact bR _ _ | refine bS ?_ ?_ _ | refine bA ?_ ?_ _ | refine bD ?_ | refine bT ?_ (by assumption) ?_ | refine bO (by assumption) ?_ ?_))) <;> (first | omega | (simp <;> omega))))
  have hz11 : w.heap.size + 1 + 1 ≤ w11.heap.size := by omega
  clear hb_w11
  clear c_w10_0_0 c_w10_0_1 fz_w10_0 hl_w10_0 c_w10_1_0 c_w10_1_1 fz_w10_1 hl_w10_1 c_w10_2_0 c_w10_2_1 fz_w10_2 hl_w10_2
  have H11 := Lib.hid (show IsC w11 (.agg #[.bool s11, .slice A11 n11 c11]) (Z3) from hv11)
  clear hv11
  go_wp2_with fail
  (refine pin_wp (N := _) (Nat.le_refl _) (fun w12 hb_w12 hz_w12 => ?_); (try simp at hz_w12); (with_reducible apply cel2 (b := w.heap.size + 1) hb_w12); (focus ((try simp) <;> omega)); (focus omega); (iterate 2 (focus (go_simp; try exact rfl))); (focus (intro o; go_simp)); intro c_w12_0_0 c_w12_0_1 fz_w12_0 hl_w12_0; (with_reducible apply cel2 (b := g_r1_4) hb_w12); (focus ((try simp) <;> omega)); (focus omega); (iterate 2 (focus (go_simp; try exact rfl))); (focus (intro o; go_simp)); intro c_w12_1_0 c_w12_1_1 fz_w12_1 hl_w12_1; (with_reducible apply cel2 (b := w8.heap.size) hb_w12); (focus ((try simp) <;> omega)); (focus omega); (iterate 2 (focus (go_simp; try exact rfl))); (focus (intro o; go_simp)); intro c_w12_2_0 c_w12_2_1 fz_w12_2 hl_w12_2; (with_reducible apply cel2 (b := w11.heap.size) hb_w12); (focus ((try simp) <;> omega)); (focus omega); (iterate 2 (focus (go_simp; try exact rfl))); (focus (intro o; go_simp)); intro c_w12_3_0 c_w12_3_1 fz_w12_3 hl_w12_3); refine wp_q (fun Q_ HQ_ => ?_); refine wp_region_floatQ w12.heap.size 5 [5] (Nat.le_refl _) (fun _ => True) trivial Cl.tt (by kernel_rfl) (by kernel_rfl) ?_
  replace H4 := Lib.hid (IsC.below (v := .agg #[.bool s4, .slice A4 n4 c4]) (z := Z1) (by ((repeat (first | (with_reducible exact H4.out) | (with_reducible refine IsC.al ?_ _) | (with_reducible apply IsC.st1))) <;> (first | (with_reducible assumption) | (intro _ e; cases e; done) | (go_simp; first | done | exact rfl)))) hb_w12)
  replace H8 := Lib.hid (IsC.below (v := .agg #[.bool s8, .slice A8 n8 c8]) (z := Z2) (by ((repeat (first | (with_reducible exact H8.out) | (with_reducible refine IsC.al ?_ _) | (with_reducible apply IsC.st1))) <;> (first | (with_reducible assumption) | (intro _ e; cases e; done) | (go_simp; first | done | exact rfl)))) hb_w12)
  replace H11 := Lib.hid (IsC.below (v := .agg #[.bool s11, .slice A11 n11 c11]) (z := Z3) (by ((repeat (first | (with_reducible exact H11.out) | (with_reducible refine IsC.al ?_ _) | (with_reducible apply IsC.st1))) <;> (first | (with_reducible assumption) | (intro _ e; cases e; done) | (go_simp; first | done | exact rfl)))) hb_w12)
  have HB12 := Lib.hid (show Below w.heap.size w w12 by have hB := HB11.out; ((with_reducible (repeat (first | exact bR _ _ | refine bS ?_ ?_ _ | refine bA ?_ ?_ _ | refine bD ?_ | refine bT ?_ (by assumption) ?_ | refine bO (by assumption) ?_ ?_))) <;> (first | omega | (simp <;> omega))))
  have hz12 : w.heap.size + 1 + 1 ≤ w12.heap.size := by omega
  clear hb_w12
  clear c_w11_0_0 c_w11_0_1 fz_w11_0 hl_w11_0 c_w11_1_0 c_w11_1_1 fz_w11_1 hl_w11_1 c_w11_2_0 c_w11_2_1 fz_w11_2 hl_w11_2
  refine wpQI_start [0, 1] ?_; (iterate 2 (first | (apply wpQI_step (by with_reducible (refine zA ?_; (repeat (first | exact zB | refine zC ?_)))) (by kernel_rfl) (by exact rfl); (focus (intro W' hS; have hcS := hS.cells.1; have hfS := hS.cells.2; go_simp; (first | done | exact rfl | exact bB _ | (go_simp; first | done | exact rfl | exact bB _)))); intro K hK; go_simp; (try go_bits); refine hK _ ?_; clear hK K))); refine wpQI_nil ?_
  refine wpQI_start [3] ?_; (iterate 1 (first | (apply wpQI_step (by with_reducible (refine zA ?_; (repeat (first | exact zB | refine zC ?_)))) (by kernel_rfl) (by exact rfl); (focus (intro W' hS; have hcS := hS.cells.1; have hfS := hS.cells.2; go_simp; (first | done | exact rfl | exact bB _ | (go_simp; first | done | exact rfl | exact bB _)))); intro K hK; go_simp; (try go_bits); refine hK _ ?_; clear hK K))); refine wpQI_nil ?_
  apply wpQ_call (i := 2) (by with_reducible (refine zA ?_; (repeat (first | exact zB | refine zC ?_)))) (by kernel_rfl) (by exact rfl); intro W hF hS; have hcS := hS.1.cells.1; have hfS := hS.1.cells.2; go_simp; (go_at_call 76; refine (K9.out _ _ _ ((H4.out.below hS.1.2).zl L3.out) ((H8.out.below hS.1.2).zl L6.out)).mono ?_; rintro e w13 ⟨hb_w13, v13, rfl, hv13⟩; refine XPost.mk _ (fun W => IsC W v13 (Z4)) hb_w13 (hv13) (IsC.cl _ _) ?_); clear hb_w13 hcS hfS hS hF
  intro K hK; go_simp; (try go_bits); refine hK _ ?_; clear hK K
  obtain ⟨s13, A13, n13, c13, rfl⟩ := IsC.val hv13
  clear hv13
  apply wpQ_call (i := 4) (by with_reducible (refine zA ?_; (repeat (first | exact zB | refine zC ?_)))) (by kernel_rfl) (by exact rfl); intro W hF hS; have hcS := hS.1.cells.1; have hfS := hS.1.cells.2; go_simp; (go_at_call 76; refine (K10.out _ _ _ (hF.zl L10.out) ((H11.out.below hS.1.2).zl L9.out)).mono ?_; rintro e w14 ⟨hb_w14, v14, rfl, hv14⟩; refine XPost.mk _ (fun W => IsC W v14 (Z)) hb_w14 (hv14) (IsC.cl _ _) ?_); clear hb_w14 hcS hfS hS hF
  intro K hK; go_simp; (try go_bits); refine hK _ ?_; clear hK K
  obtain ⟨s14, A14, n14, c14, rfl⟩ := IsC.val hv14
  clear hv14
  refine wpQ_done (by kernel_rfl) ?_
  intro w15 hF_w15 hSG
  have hz_w15 := hSG.1.1
  have hb_w15 := hSG.1.2
  clear hSG
  (with_reducible apply cel2 (b := w.heap.size + 1) hb_w15); (focus ((try simp) <;> omega)); (focus omega); (iterate 2 (focus (go_simp; try exact rfl))); (focus (intro o; go_simp)); intro c_w15_0_0 c_w15_0_1 fz_w15_0 hl_w15_0; (with_reducible apply cel2 (b := g_r1_4) hb_w15); (focus ((try simp) <;> omega)); (focus omega); (iterate 2 (focus (go_simp; try exact rfl))); (focus (intro o; go_simp)); intro c_w15_1_0 c_w15_1_1 fz_w15_1 hl_w15_1; (with_reducible apply cel2 (b := w8.heap.size) hb_w15); (focus ((try simp) <;> omega)); (focus omega); (iterate 2 (focus (go_simp; try exact rfl))); (focus (intro o; go_simp)); intro c_w15_2_0 c_w15_2_1 fz_w15_2 hl_w15_2; (with_reducible apply cel2 (b := w11.heap.size) hb_w15); (focus ((try simp) <;> omega)); (focus omega); (iterate 2 (focus (go_simp; try exact rfl))); (focus (intro o; go_simp)); intro c_w15_3_0 c_w15_3_1 fz_w15_3 hl_w15_3
  (try simp only [List.filterMap_cons, List.filterMap_nil, List.getElem?_cons_succ, List.getElem?_cons_zero])
  clear H4
  clear H8
  clear H11
  have H13 := Lib.hid (show IsC w15 (.agg #[.bool s13, .slice A13 n13 c13]) (Z4) from hF_w15.1)
  have H14 := Lib.hid (show IsC w15 (.agg #[.bool s14, .slice A14 n14 c14]) (Z) from hF_w15.2)
  have HB15 := Lib.hid (HB12.out.trans (hb_w15.mono (by have := HB12.out.size; omega)))
  have hz15 : w.heap.size + 1 + 1 ≤ w15.heap.size := by omega
  clear hF_w15 hb_w15
  clear c_w12_0_0 c_w12_0_1 fz_w12_0 hl_w12_0 c_w12_1_0 c_w12_1_1 fz_w12_1 hl_w12_1 c_w12_2_0 c_w12_2_1 fz_w12_2 hl_w12_2 c_w12_3_0 c_w12_3_1 fz_w12_3 hl_w12_3
  go_wp2_with fail
  refine HQ_.out _ _ _ ?_
  clear HQ_ Q_
  go_wp2_with fail
  refine bodyPost_ret (v := .agg #[.bool s14, .slice A14 n14 c14]) (by simp only [results, Tryz.results43]; go_simp) rfl ⟨?_, ?_⟩
  · have hB := HB15.out; ((with_reducible (repeat (first | exact bR _ _ | refine bS ?_ ?_ _ | refine bA ?_ ?_ _ | refine bD ?_ | refine bT ?_ (by assumption) ?_ | refine bO (by assumption) ?_ ?_))) <;> (first | omega | (simp <;> omega)))
  · exact ⟨_, rfl, (by ((repeat (first | (with_reducible exact H14.out) | (with_reducible refine IsC.al ?_ _) | (with_reducible apply IsC.st1))) <;> (first | (with_reducible assumption) | (intro _ e; cases e; done) | (go_simp; first | done | exact rfl))))⟩
set_option maxRecDepth 100000 in
set_option maxHeartbeats 20000000 in
theorem rstatic_bad (v1 v2 w1 w2 n1 n2 rest grip : Int) (w : World) (h : ¬ (permB v1 v2 w1 w2 n1 n2 = true ∧ (sixB rest && sixB grip) = true)) :
    Calls Tryz.prog 15 #[.agg #[.int .i64 v1, .int .i64 v2], .agg #[.int .i64 w1, .int .i64 w2], .agg #[.int .i64 n1, .int .i64 n2], .int .i64 rest, .int .i64 grip] w (ROut 0 0 0 w) := by
  have k1 := fun w => rspeed_any v1 v2 w
  have k2 := fun w => rspeed_any w1 w2 w
  have k3 := fun w => rdirection_any n1 n2 w
  have k4 := fun w => rpart_any rest w
  have k5 := fun w => rpart_any grip w
  unfold permB at h
  generalize withinB v1 v2 1048576 = c1 at *
  generalize withinB w1 w2 1048576 = c2 at *
  generalize withinB n1 n2 2097152 = c3 at *
  generalize sixB rest = c4 at *
  generalize sixB grip = c5 at *
  have H := Lib.hid h
  have K1 := Lib.hid k1
  have K2 := Lib.hid k2
  have K3 := Lib.hid k3
  have K4 := Lib.hid k4
  have K5 := Lib.hid k5
  clear k1 k2 k3 k4 k5 h
  go_enter Tryz.func15, Tryz.ntmps15; (try simp only [List.append_eq, List.cons_append, List.nil_append])
  go_wp2_with fail
  (go_at_call 34; refine (K1.out _).mono ?_; rintro e w1 ⟨rfl, hb_w1⟩; have hz_w1 := hb_w1.size; (try simp at hz_w1); (with_reducible apply cel2 (b := w.heap.size) hb_w1); (focus ((try simp) <;> omega)); (focus omega); (iterate 2 (focus (go_simp; try exact rfl))); (focus (intro o; go_simp)); intro c_w1_0_0 c_w1_0_1 fz_w1_0 hl_w1_0; (with_reducible apply cel2 (b := w.heap.size + 1) hb_w1); (focus ((try simp) <;> omega)); (focus omega); (iterate 2 (focus (go_simp; try exact rfl))); (focus (intro o; go_simp)); intro c_w1_1_0 c_w1_1_1 fz_w1_1 hl_w1_1; (with_reducible apply cel2 (b := w.heap.size + 1 + 1) hb_w1); (focus ((try simp) <;> omega)); (focus omega); (iterate 2 (focus (go_simp; try exact rfl))); (focus (intro o; go_simp)); intro c_w1_2_0 c_w1_2_1 fz_w1_2 hl_w1_2; (with_reducible apply cel6 (b := w.heap.size + 1 + 1 + 1) hb_w1); (focus ((try simp) <;> omega)); (focus omega); (iterate 6 (focus (go_simp; try exact rfl))); (focus (intro o; go_simp)); intro c_w1_3_0 c_w1_3_1 c_w1_3_2 c_w1_3_3 c_w1_3_4 c_w1_3_5 fz_w1_3 hl_w1_3)
  cases c1
  · go_wp2_with fail
    refine bodyPost_ret (v := .agg #[.bool false, .slice none 0 0, .bool false, .slice none 0 0, .bool false, .slice none 0 0]) (by simp only [results, Tryz.results15]; go_simp) rfl ⟨?_, ?_⟩
    · ((with_reducible (repeat (first | exact bR _ _ | refine bS ?_ ?_ _ | refine bA ?_ ?_ _ | refine bD ?_ | refine bT ?_ (by assumption) ?_ | refine bO (by assumption) ?_ ?_))) <;> (first | omega | (simp <;> omega)))
    · exact ⟨_, rfl, RAt.zero _⟩
  · go_wp2_with fail
    (go_at_call 34; refine (K2.out _).mono ?_; rintro e w2 ⟨rfl, hb_w2⟩; have hz_w2 := hb_w2.size; (try simp at hz_w2); (with_reducible apply cel2 (b := w.heap.size) hb_w2); (focus ((try simp) <;> omega)); (focus omega); (iterate 2 (focus (go_simp; try exact rfl))); (focus (intro o; go_simp)); intro c_w2_0_0 c_w2_0_1 fz_w2_0 hl_w2_0; (with_reducible apply cel2 (b := w.heap.size + 1) hb_w2); (focus ((try simp) <;> omega)); (focus omega); (iterate 2 (focus (go_simp; try exact rfl))); (focus (intro o; go_simp)); intro c_w2_1_0 c_w2_1_1 fz_w2_1 hl_w2_1; (with_reducible apply cel2 (b := w.heap.size + 1 + 1) hb_w2); (focus ((try simp) <;> omega)); (focus omega); (iterate 2 (focus (go_simp; try exact rfl))); (focus (intro o; go_simp)); intro c_w2_2_0 c_w2_2_1 fz_w2_2 hl_w2_2; (with_reducible apply cel6 (b := w.heap.size + 1 + 1 + 1) hb_w2); (focus ((try simp) <;> omega)); (focus omega); (iterate 6 (focus (go_simp; try exact rfl))); (focus (intro o; go_simp)); intro c_w2_3_0 c_w2_3_1 c_w2_3_2 c_w2_3_3 c_w2_3_4 c_w2_3_5 fz_w2_3 hl_w2_3)
    cases c2
    · go_wp2_with fail
      refine bodyPost_ret (v := .agg #[.bool false, .slice none 0 0, .bool false, .slice none 0 0, .bool false, .slice none 0 0]) (by simp only [results, Tryz.results15]; go_simp) rfl ⟨?_, ?_⟩
      · ((with_reducible (repeat (first | exact bR _ _ | refine bS ?_ ?_ _ | refine bA ?_ ?_ _ | refine bD ?_ | refine bT ?_ (by assumption) ?_ | refine bO (by assumption) ?_ ?_))) <;> (first | omega | (simp <;> omega)))
      · exact ⟨_, rfl, RAt.zero _⟩
    · go_wp2_with fail
      (go_at_call 35; refine (K3.out _).mono ?_; rintro e w3 ⟨rfl, hb_w3⟩; have hz_w3 := hb_w3.size; (try simp at hz_w3); (with_reducible apply cel2 (b := w.heap.size) hb_w3); (focus ((try simp) <;> omega)); (focus omega); (iterate 2 (focus (go_simp; try exact rfl))); (focus (intro o; go_simp)); intro c_w3_0_0 c_w3_0_1 fz_w3_0 hl_w3_0; (with_reducible apply cel2 (b := w.heap.size + 1) hb_w3); (focus ((try simp) <;> omega)); (focus omega); (iterate 2 (focus (go_simp; try exact rfl))); (focus (intro o; go_simp)); intro c_w3_1_0 c_w3_1_1 fz_w3_1 hl_w3_1; (with_reducible apply cel2 (b := w.heap.size + 1 + 1) hb_w3); (focus ((try simp) <;> omega)); (focus omega); (iterate 2 (focus (go_simp; try exact rfl))); (focus (intro o; go_simp)); intro c_w3_2_0 c_w3_2_1 fz_w3_2 hl_w3_2; (with_reducible apply cel6 (b := w.heap.size + 1 + 1 + 1) hb_w3); (focus ((try simp) <;> omega)); (focus omega); (iterate 6 (focus (go_simp; try exact rfl))); (focus (intro o; go_simp)); intro c_w3_3_0 c_w3_3_1 c_w3_3_2 c_w3_3_3 c_w3_3_4 c_w3_3_5 fz_w3_3 hl_w3_3)
      cases c3
      · go_wp2_with fail
        refine bodyPost_ret (v := .agg #[.bool false, .slice none 0 0, .bool false, .slice none 0 0, .bool false, .slice none 0 0]) (by simp only [results, Tryz.results15]; go_simp) rfl ⟨?_, ?_⟩
        · ((with_reducible (repeat (first | exact bR _ _ | refine bS ?_ ?_ _ | refine bA ?_ ?_ _ | refine bD ?_ | refine bT ?_ (by assumption) ?_ | refine bO (by assumption) ?_ ?_))) <;> (first | omega | (simp <;> omega)))
        · exact ⟨_, rfl, RAt.zero _⟩
      · go_wp2_with fail
        (go_at_call 41; refine (K4.out _).mono ?_; rintro e w4 ⟨rfl, hb_w4⟩; have hz_w4 := hb_w4.size; (try simp at hz_w4); (with_reducible apply cel2 (b := w.heap.size) hb_w4); (focus ((try simp) <;> omega)); (focus omega); (iterate 2 (focus (go_simp; try exact rfl))); (focus (intro o; go_simp)); intro c_w4_0_0 c_w4_0_1 fz_w4_0 hl_w4_0; (with_reducible apply cel2 (b := w.heap.size + 1) hb_w4); (focus ((try simp) <;> omega)); (focus omega); (iterate 2 (focus (go_simp; try exact rfl))); (focus (intro o; go_simp)); intro c_w4_1_0 c_w4_1_1 fz_w4_1 hl_w4_1; (with_reducible apply cel2 (b := w.heap.size + 1 + 1) hb_w4); (focus ((try simp) <;> omega)); (focus omega); (iterate 2 (focus (go_simp; try exact rfl))); (focus (intro o; go_simp)); intro c_w4_2_0 c_w4_2_1 fz_w4_2 hl_w4_2; (with_reducible apply cel6 (b := w.heap.size + 1 + 1 + 1) hb_w4); (focus ((try simp) <;> omega)); (focus omega); (iterate 6 (focus (go_simp; try exact rfl))); (focus (intro o; go_simp)); intro c_w4_3_0 c_w4_3_1 c_w4_3_2 c_w4_3_3 c_w4_3_4 c_w4_3_5 fz_w4_3 hl_w4_3)
        cases c4
        · go_wp2_with fail
          refine bodyPost_ret (v := .agg #[.bool false, .slice none 0 0, .bool false, .slice none 0 0, .bool false, .slice none 0 0]) (by simp only [results, Tryz.results15]; go_simp) rfl ⟨?_, ?_⟩
          · ((with_reducible (repeat (first | exact bR _ _ | refine bS ?_ ?_ _ | refine bA ?_ ?_ _ | refine bD ?_ | refine bT ?_ (by assumption) ?_ | refine bO (by assumption) ?_ ?_))) <;> (first | omega | (simp <;> omega)))
          · exact ⟨_, rfl, RAt.zero _⟩
        · go_wp2_with fail
          (go_at_call 41; refine (K5.out _).mono ?_; rintro e w5 ⟨rfl, hb_w5⟩; have hz_w5 := hb_w5.size; (try simp at hz_w5); (with_reducible apply cel2 (b := w.heap.size) hb_w5); (focus ((try simp) <;> omega)); (focus omega); (iterate 2 (focus (go_simp; try exact rfl))); (focus (intro o; go_simp)); intro c_w5_0_0 c_w5_0_1 fz_w5_0 hl_w5_0; (with_reducible apply cel2 (b := w.heap.size + 1) hb_w5); (focus ((try simp) <;> omega)); (focus omega); (iterate 2 (focus (go_simp; try exact rfl))); (focus (intro o; go_simp)); intro c_w5_1_0 c_w5_1_1 fz_w5_1 hl_w5_1; (with_reducible apply cel2 (b := w.heap.size + 1 + 1) hb_w5); (focus ((try simp) <;> omega)); (focus omega); (iterate 2 (focus (go_simp; try exact rfl))); (focus (intro o; go_simp)); intro c_w5_2_0 c_w5_2_1 fz_w5_2 hl_w5_2; (with_reducible apply cel6 (b := w.heap.size + 1 + 1 + 1) hb_w5); (focus ((try simp) <;> omega)); (focus omega); (iterate 6 (focus (go_simp; try exact rfl))); (focus (intro o; go_simp)); intro c_w5_3_0 c_w5_3_1 c_w5_3_2 c_w5_3_3 c_w5_3_4 c_w5_3_5 fz_w5_3 hl_w5_3)
          cases c5
          · go_wp2_with fail
            refine bodyPost_ret (v := .agg #[.bool false, .slice none 0 0, .bool false, .slice none 0 0, .bool false, .slice none 0 0]) (by simp only [results, Tryz.results15]; go_simp) rfl ⟨?_, ?_⟩
            · ((with_reducible (repeat (first | exact bR _ _ | refine bS ?_ ?_ _ | refine bA ?_ ?_ _ | refine bD ?_ | refine bT ?_ (by assumption) ?_ | refine bO (by assumption) ?_ ?_))) <;> (first | omega | (simp <;> omega)))
            · exact ⟨_, rfl, RAt.zero _⟩
          · exact absurd (by simp) H.out
set_option maxRecDepth 100000 in
set_option maxHeartbeats 20000000 in
theorem rstatic_away (v1 v2 w1 w2 n1 n2 rest grip : Int) (w : World) (h : permB v1 v2 w1 w2 n1 n2 = true) (hr : sixB rest = true) (hg : sixB grip = true) (ha : apprB v1 v2 w1 w2 n1 n2 = false) :
    Calls Tryz.prog 15 #[.agg #[.int .i64 v1, .int .i64 v2], .agg #[.int .i64 w1, .int .i64 w2], .agg #[.int .i64 n1, .int .i64 n2], .int .i64 rest, .int .i64 grip] w (ROut v1 v2 1 w) := by
  obtain ⟨bv, _, _⟩ := perm_bd h
  have k1 := fun w => rspeed_any v1 v2 w
  have k2 := fun w => rspeed_any w1 w2 w
  have k3 := fun w => rdirection_any n1 n2 w
  have k4 := fun w => rpart_any rest w
  have k5 := fun w => rpart_any grip w
  have hp := h
  unfold permB at hp
  simp only [Bool.and_eq_true] at hp
  rw [hp.1.1] at k1
  rw [hp.1.2] at k2
  rw [hp.2] at k3
  rw [hr] at k4
  rw [hg] at k5
  have k6 := fun w => rapproaches_any v1 v2 w1 w2 n1 n2 w
  have k7 := fun w => rwhole_any v1 v2 w (by omega) (by omega)
  rw [ha] at k6
  have K1 := Lib.hid k1
  have K2 := Lib.hid k2
  have K3 := Lib.hid k3
  have K4 := Lib.hid k4
  have K5 := Lib.hid k5
  have K6 := Lib.hid k6
  have K7 := Lib.hid k7
  clear k1 k2 k3 k4 k5 k6 k7 h hr hg ha bv hp
  go_enter Tryz.func15, Tryz.ntmps15; (try simp only [List.append_eq, List.cons_append, List.nil_append])
  go_wp2_with fail
  (go_at_call 34; refine (K1.out _).mono ?_; rintro e w2 ⟨rfl, hb_w2⟩; have hz_w2 := hb_w2.size; (try simp at hz_w2); (with_reducible apply cel2 (b := w.heap.size) hb_w2); (focus ((try simp) <;> omega)); (focus omega); (iterate 2 (focus (go_simp; try exact rfl))); (focus (intro o; go_simp)); intro c_w2_0_0 c_w2_0_1 fz_w2_0 hl_w2_0; (with_reducible apply cel2 (b := w.heap.size + 1) hb_w2); (focus ((try simp) <;> omega)); (focus omega); (iterate 2 (focus (go_simp; try exact rfl))); (focus (intro o; go_simp)); intro c_w2_1_0 c_w2_1_1 fz_w2_1 hl_w2_1; (with_reducible apply cel2 (b := w.heap.size + 1 + 1) hb_w2); (focus ((try simp) <;> omega)); (focus omega); (iterate 2 (focus (go_simp; try exact rfl))); (focus (intro o; go_simp)); intro c_w2_2_0 c_w2_2_1 fz_w2_2 hl_w2_2; (with_reducible apply cel6 (b := w.heap.size + 1 + 1 + 1) hb_w2); (focus ((try simp) <;> omega)); (focus omega); (iterate 6 (focus (go_simp; try exact rfl))); (focus (intro o; go_simp)); intro c_w2_3_0 c_w2_3_1 c_w2_3_2 c_w2_3_3 c_w2_3_4 c_w2_3_5 fz_w2_3 hl_w2_3)
  have HB2 := Lib.hid (show Below w.heap.size w w2 by ((with_reducible (repeat (first | exact bR _ _ | refine bS ?_ ?_ _ | refine bA ?_ ?_ _ | refine bD ?_ | refine bT ?_ (by assumption) ?_ | refine bO (by assumption) ?_ ?_))) <;> (first | omega | (simp <;> omega))))
  have hz2 : w.heap.size + 1 + 1 + 1 + 1 ≤ w2.heap.size := by omega
  clear hb_w2
  skip
  go_wp2_with fail
  (go_at_call 34; refine (K2.out _).mono ?_; rintro e w3 ⟨rfl, hb_w3⟩; have hz_w3 := hb_w3.size; (try simp at hz_w3); (with_reducible apply cel2 (b := w.heap.size) hb_w3); (focus ((try simp) <;> omega)); (focus omega); (iterate 2 (focus (go_simp; try exact rfl))); (focus (intro o; go_simp)); intro c_w3_0_0 c_w3_0_1 fz_w3_0 hl_w3_0; (with_reducible apply cel2 (b := w.heap.size + 1) hb_w3); (focus ((try simp) <;> omega)); (focus omega); (iterate 2 (focus (go_simp; try exact rfl))); (focus (intro o; go_simp)); intro c_w3_1_0 c_w3_1_1 fz_w3_1 hl_w3_1; (with_reducible apply cel2 (b := w.heap.size + 1 + 1) hb_w3); (focus ((try simp) <;> omega)); (focus omega); (iterate 2 (focus (go_simp; try exact rfl))); (focus (intro o; go_simp)); intro c_w3_2_0 c_w3_2_1 fz_w3_2 hl_w3_2; (with_reducible apply cel6 (b := w.heap.size + 1 + 1 + 1) hb_w3); (focus ((try simp) <;> omega)); (focus omega); (iterate 6 (focus (go_simp; try exact rfl))); (focus (intro o; go_simp)); intro c_w3_3_0 c_w3_3_1 c_w3_3_2 c_w3_3_3 c_w3_3_4 c_w3_3_5 fz_w3_3 hl_w3_3)
  have HB3 := Lib.hid (show Below w.heap.size w w3 by have hB := HB2.out; ((with_reducible (repeat (first | exact bR _ _ | refine bS ?_ ?_ _ | refine bA ?_ ?_ _ | refine bD ?_ | refine bT ?_ (by assumption) ?_ | refine bO (by assumption) ?_ ?_))) <;> (first | omega | (simp <;> omega))))
  have hz3 : w.heap.size + 1 + 1 + 1 + 1 ≤ w3.heap.size := by omega
  clear hb_w3
  clear c_w2_0_0 c_w2_0_1 fz_w2_0 hl_w2_0 c_w2_1_0 c_w2_1_1 fz_w2_1 hl_w2_1 c_w2_2_0 c_w2_2_1 fz_w2_2 hl_w2_2 c_w2_3_0 c_w2_3_1 c_w2_3_2 c_w2_3_3 c_w2_3_4 c_w2_3_5 fz_w2_3 hl_w2_3
  go_wp2_with fail
  (go_at_call 35; refine (K3.out _).mono ?_; rintro e w4 ⟨rfl, hb_w4⟩; have hz_w4 := hb_w4.size; (try simp at hz_w4); (with_reducible apply cel2 (b := w.heap.size) hb_w4); (focus ((try simp) <;> omega)); (focus omega); (iterate 2 (focus (go_simp; try exact rfl))); (focus (intro o; go_simp)); intro c_w4_0_0 c_w4_0_1 fz_w4_0 hl_w4_0; (with_reducible apply cel2 (b := w.heap.size + 1) hb_w4); (focus ((try simp) <;> omega)); (focus omega); (iterate 2 (focus (go_simp; try exact rfl))); (focus (intro o; go_simp)); intro c_w4_1_0 c_w4_1_1 fz_w4_1 hl_w4_1; (with_reducible apply cel2 (b := w.heap.size + 1 + 1) hb_w4); (focus ((try simp) <;> omega)); (focus omega); (iterate 2 (focus (go_simp; try exact rfl))); (focus (intro o; go_simp)); intro c_w4_2_0 c_w4_2_1 fz_w4_2 hl_w4_2; (with_reducible apply cel6 (b := w.heap.size + 1 + 1 + 1) hb_w4); (focus ((try simp) <;> omega)); (focus omega); (iterate 6 (focus (go_simp; try exact rfl))); (focus (intro o; go_simp)); intro c_w4_3_0 c_w4_3_1 c_w4_3_2 c_w4_3_3 c_w4_3_4 c_w4_3_5 fz_w4_3 hl_w4_3)
  have HB4 := Lib.hid (show Below w.heap.size w w4 by have hB := HB3.out; ((with_reducible (repeat (first | exact bR _ _ | refine bS ?_ ?_ _ | refine bA ?_ ?_ _ | refine bD ?_ | refine bT ?_ (by assumption) ?_ | refine bO (by assumption) ?_ ?_))) <;> (first | omega | (simp <;> omega))))
  have hz4 : w.heap.size + 1 + 1 + 1 + 1 ≤ w4.heap.size := by omega
  clear hb_w4
  clear c_w3_0_0 c_w3_0_1 fz_w3_0 hl_w3_0 c_w3_1_0 c_w3_1_1 fz_w3_1 hl_w3_1 c_w3_2_0 c_w3_2_1 fz_w3_2 hl_w3_2 c_w3_3_0 c_w3_3_1 c_w3_3_2 c_w3_3_3 c_w3_3_4 c_w3_3_5 fz_w3_3 hl_w3_3
  go_wp2_with fail
  (go_at_call 41; refine (K4.out _).mono ?_; rintro e w5 ⟨rfl, hb_w5⟩; have hz_w5 := hb_w5.size; (try simp at hz_w5); (with_reducible apply cel2 (b := w.heap.size) hb_w5); (focus ((try simp) <;> omega)); (focus omega); (iterate 2 (focus (go_simp; try exact rfl))); (focus (intro o; go_simp)); intro c_w5_0_0 c_w5_0_1 fz_w5_0 hl_w5_0; (with_reducible apply cel2 (b := w.heap.size + 1) hb_w5); (focus ((try simp) <;> omega)); (focus omega); (iterate 2 (focus (go_simp; try exact rfl))); (focus (intro o; go_simp)); intro c_w5_1_0 c_w5_1_1 fz_w5_1 hl_w5_1; (with_reducible apply cel2 (b := w.heap.size + 1 + 1) hb_w5); (focus ((try simp) <;> omega)); (focus omega); (iterate 2 (focus (go_simp; try exact rfl))); (focus (intro o; go_simp)); intro c_w5_2_0 c_w5_2_1 fz_w5_2 hl_w5_2; (with_reducible apply cel6 (b := w.heap.size + 1 + 1 + 1) hb_w5); (focus ((try simp) <;> omega)); (focus omega); (iterate 6 (focus (go_simp; try exact rfl))); (focus (intro o; go_simp)); intro c_w5_3_0 c_w5_3_1 c_w5_3_2 c_w5_3_3 c_w5_3_4 c_w5_3_5 fz_w5_3 hl_w5_3)
  have HB5 := Lib.hid (show Below w.heap.size w w5 by have hB := HB4.out; ((with_reducible (repeat (first | exact bR _ _ | refine bS ?_ ?_ _ | refine bA ?_ ?_ _ | refine bD ?_ | refine bT ?_ (by assumption) ?_ | refine bO (by assumption) ?_ ?_))) <;> (first | omega | (simp <;> omega))))
  have hz5 : w.heap.size + 1 + 1 + 1 + 1 ≤ w5.heap.size := by omega
  clear hb_w5
  clear c_w4_0_0 c_w4_0_1 fz_w4_0 hl_w4_0 c_w4_1_0 c_w4_1_1 fz_w4_1 hl_w4_1 c_w4_2_0 c_w4_2_1 fz_w4_2 hl_w4_2 c_w4_3_0 c_w4_3_1 c_w4_3_2 c_w4_3_3 c_w4_3_4 c_w4_3_5 fz_w4_3 hl_w4_3
  go_wp2_with fail
  (go_at_call 41; refine (K5.out _).mono ?_; rintro e w6 ⟨rfl, hb_w6⟩; have hz_w6 := hb_w6.size; (try simp at hz_w6); (with_reducible apply cel2 (b := w.heap.size) hb_w6); (focus ((try simp) <;> omega)); (focus omega); (iterate 2 (focus (go_simp; try exact rfl))); (focus (intro o; go_simp)); intro c_w6_0_0 c_w6_0_1 fz_w6_0 hl_w6_0; (with_reducible apply cel2 (b := w.heap.size + 1) hb_w6); (focus ((try simp) <;> omega)); (focus omega); (iterate 2 (focus (go_simp; try exact rfl))); (focus (intro o; go_simp)); intro c_w6_1_0 c_w6_1_1 fz_w6_1 hl_w6_1; (with_reducible apply cel2 (b := w.heap.size + 1 + 1) hb_w6); (focus ((try simp) <;> omega)); (focus omega); (iterate 2 (focus (go_simp; try exact rfl))); (focus (intro o; go_simp)); intro c_w6_2_0 c_w6_2_1 fz_w6_2 hl_w6_2; (with_reducible apply cel6 (b := w.heap.size + 1 + 1 + 1) hb_w6); (focus ((try simp) <;> omega)); (focus omega); (iterate 6 (focus (go_simp; try exact rfl))); (focus (intro o; go_simp)); intro c_w6_3_0 c_w6_3_1 c_w6_3_2 c_w6_3_3 c_w6_3_4 c_w6_3_5 fz_w6_3 hl_w6_3)
  have HB6 := Lib.hid (show Below w.heap.size w w6 by have hB := HB5.out; ((with_reducible (repeat (first | exact bR _ _ | refine bS ?_ ?_ _ | refine bA ?_ ?_ _ | refine bD ?_ | refine bT ?_ (by assumption) ?_ | refine bO (by assumption) ?_ ?_))) <;> (first | omega | (simp <;> omega))))
  have hz6 : w.heap.size + 1 + 1 + 1 + 1 ≤ w6.heap.size := by omega
  clear hb_w6
  clear c_w5_0_0 c_w5_0_1 fz_w5_0 hl_w5_0 c_w5_1_0 c_w5_1_1 fz_w5_1 hl_w5_1 c_w5_2_0 c_w5_2_1 fz_w5_2 hl_w5_2 c_w5_3_0 c_w5_3_1 c_w5_3_2 c_w5_3_3 c_w5_3_4 c_w5_3_5 fz_w5_3 hl_w5_3
  go_wp2_with fail
  (go_at_call 13; refine (K6.out _).mono ?_; rintro e w7 ⟨rfl, hb_w7⟩; have hz_w7 := hb_w7.size; (try simp at hz_w7); (with_reducible apply cel2 (b := w.heap.size) hb_w7); (focus ((try simp) <;> omega)); (focus omega); (iterate 2 (focus (go_simp; try exact rfl))); (focus (intro o; go_simp)); intro c_w7_0_0 c_w7_0_1 fz_w7_0 hl_w7_0; (with_reducible apply cel6 (b := w.heap.size + 1 + 1 + 1) hb_w7); (focus ((try simp) <;> omega)); (focus omega); (iterate 6 (focus (go_simp; try exact rfl))); (focus (intro o; go_simp)); intro c_w7_1_0 c_w7_1_1 c_w7_1_2 c_w7_1_3 c_w7_1_4 c_w7_1_5 fz_w7_1 hl_w7_1)
  have HB7 := Lib.hid (show Below w.heap.size w w7 by have hB := HB6.out; ((with_reducible (repeat (first | exact bR _ _ | refine bS ?_ ?_ _ | refine bA ?_ ?_ _ | refine bD ?_ | refine bT ?_ (by assumption) ?_ | refine bO (by assumption) ?_ ?_))) <;> (first | omega | (simp <;> omega))))
  have hz7 : w.heap.size + 1 + 1 + 1 + 1 ≤ w7.heap.size := by omega
  clear hb_w7
  clear c_w6_0_0 c_w6_0_1 fz_w6_0 hl_w6_0 c_w6_1_0 c_w6_1_1 fz_w6_1 hl_w6_1 c_w6_2_0 c_w6_2_1 fz_w6_2 hl_w6_2 c_w6_3_0 c_w6_3_1 c_w6_3_2 c_w6_3_3 c_w6_3_4 c_w6_3_5 fz_w6_3 hl_w6_3
  go_wp2_with fail
  (go_at_call 16; refine (K7.out _).mono ?_; rintro e w8 ⟨hb_w8, v8, rfl, hv8⟩; have hz_w8 := hb_w8.size; (try simp at hz_w8); (with_reducible apply cel6 (b := w.heap.size + 1 + 1 + 1) hb_w8); (focus ((try simp) <;> omega)); (focus omega); (iterate 6 (focus (go_simp; try exact rfl))); (focus (intro o; go_simp)); intro c_w8_0_0 c_w8_0_1 c_w8_0_2 c_w8_0_3 c_w8_0_4 c_w8_0_5 fz_w8_0 hl_w8_0)
  obtain ⟨s8x, A8x, n8x, c8x, s8y, A8y, n8y, c8y, s8d, A8d, n8d, c8d, rfl⟩ := RAt.val hv8
  have HB8 := Lib.hid (show Below w.heap.size w w8 by have hB := HB7.out; ((with_reducible (repeat (first | exact bR _ _ | refine bS ?_ ?_ _ | refine bA ?_ ?_ _ | refine bD ?_ | refine bT ?_ (by assumption) ?_ | refine bO (by assumption) ?_ ?_))) <;> (first | omega | (simp <;> omega))))
  have hz8 : w.heap.size + 1 + 1 + 1 + 1 ≤ w8.heap.size := by omega
  clear hb_w8
  clear c_w7_0_0 c_w7_0_1 fz_w7_0 hl_w7_0 c_w7_1_0 c_w7_1_1 c_w7_1_2 c_w7_1_3 c_w7_1_4 c_w7_1_5 fz_w7_1 hl_w7_1
  have H8 := Lib.hid (show RAt w8 (.agg #[.bool s8x, .slice A8x n8x c8x, .bool s8y, .slice A8y n8y c8y, .bool s8d, .slice A8d n8d c8d]) (v1) (v2) (1) from hv8)
  clear hv8
  go_wp2_with fail
  refine bodyPost_ret (v := .agg #[.bool s8x, .slice A8x n8x c8x, .bool s8y, .slice A8y n8y c8y, .bool s8d, .slice A8d n8d c8d]) (by simp only [results, Tryz.results15]; go_simp) rfl ⟨?_, ?_⟩
  · have hB := HB8.out; ((with_reducible (repeat (first | exact bR _ _ | refine bS ?_ ?_ _ | refine bA ?_ ?_ _ | refine bD ?_ | refine bT ?_ (by assumption) ?_ | refine bO (by assumption) ?_ ?_))) <;> (first | omega | (simp <;> omega)))
  · exact ⟨_, rfl, (by ((repeat (first | (with_reducible exact H8.out) | (with_reducible refine RAt.al ?_ _) | (with_reducible apply RAt.st1))) <;> (first | (with_reducible assumption) | (intro _ e; cases e; done) | (go_simp; first | done | exact rfl))))⟩
set_option maxRecDepth 100000 in
set_option maxHeartbeats 20000000 in
theorem rstatic_on (v1 v2 w1 w2 n1 n2 rest grip : Int) (w : World) (h : permB v1 v2 w1 w2 n1 n2 = true) (hr : sixB rest = true) (hg : sixB grip = true) (ha : apprB v1 v2 w1 w2 n1 n2 = true) :
    Calls Tryz.prog 15 #[.agg #[.int .i64 v1, .int .i64 v2], .agg #[.int .i64 w1, .int .i64 w2], .agg #[.int .i64 n1, .int .i64 n2], .int .i64 rest, .int .i64 grip] w (TOut (lowR (statX v1 (v1 - w1) n1 (n1 * n1 + n2 * n2) ((v1 - w1) * n1 + (v2 - w2) * n2) rest grip) (statX v2 (v2 - w2) n2 (n1 * n1 + n2 * n2) ((v1 - w1) * n1 + (v2 - w2) * n2) rest grip) (16 * (n1 * n1 + n2 * n2))) w) := by
  obtain ⟨bv, bw, bn⟩ := perm_bd h
  obtain ⟨e1, e2, e3⟩ := perm_vals h
  obtain ⟨⟨p1, p2⟩, p3, p4⟩ := perm_prod h
  obtain ⟨_, _, q3⟩ := appr_bd ha
  have t1 := sm1 h hr hg
  have t2 := sm2 h hr hg
  have k1 := fun w => rspeed_any v1 v2 w
  have k2 := fun w => rspeed_any w1 w2 w
  have k3 := fun w => rdirection_any n1 n2 w
  have k4 := fun w => rpart_any rest w
  have k5 := fun w => rpart_any grip w
  have hp := h
  unfold permB at hp
  simp only [Bool.and_eq_true] at hp
  rw [hp.1.1] at k1
  rw [hp.1.2] at k2
  rw [hp.2] at k3
  rw [hr] at k4
  rw [hg] at k5
  have k6 := fun w => rapproaches_any v1 v2 w1 w2 n1 n2 w
  have k7 := fun w => rsub_any v1 v2 w1 w2 w
  have k8 := fun w => rdot_any (v1 - w1) (v2 - w2) n1 n2 w
  have k9 := fun w => rdot_any n1 n2 n1 n2 w
  rw [ha] at k6
  rw [e1] at k7
  rw [e2] at k8
  rw [e3] at k9
  generalize (v1 - w1) * n1 + (v2 - w2) * n2 = C at *
  generalize n1 * n1 + n2 * n2 = M at *
  have k10 := fun w => rscaled_any 16 M w (by omega) (by omega)
  have k11 := fun dv w hd => rone_any v1 (v1 - w1) n1 C M rest grip dv w t1 hd
  have k12 := fun dv w hd => rone_any v2 (v2 - w2) n2 C M rest grip dv w t2 hd
  have l1 := t1.len
  have l2 := t2.len
  have l3 := len_wd (z := 16 * M) (by omega) (by omega)
  generalize statX v1 (v1 - w1) n1 M C rest grip = X at *
  generalize statX v2 (v2 - w2) n2 M C rest grip = Y at *
  have k13 := fun v w hv => rlowest_any X Y (16 * M) v w hv (by omega) (by omega) (by omega) (by omega)
  unfold TOut lowR
  generalize X.tdiv (lowG X Y (16 * M)) = RX at *
  generalize Y.tdiv (lowG X Y (16 * M)) = RY at *
  generalize (16 * M).tdiv (lowG X Y (16 * M)) = RD at *
  obtain ⟨bv1, bv2, bv3, bv4⟩ := bv
  have K1 := Lib.hid k1
  have K2 := Lib.hid k2
  have K3 := Lib.hid k3
  have K4 := Lib.hid k4
  have K5 := Lib.hid k5
  have K6 := Lib.hid k6
  have K7 := Lib.hid k7
  have K8 := Lib.hid k8
  have K9 := Lib.hid k9
  have K10 := Lib.hid k10
  have K11 := Lib.hid k11
  have K12 := Lib.hid k12
  have K13 := Lib.hid k13
  clear k1 k2 k3 k4 k5 k6 k7 k8 k9 k10 k11 k12 k13 h hr hg ha e1 e2 e3 t1 t2 l1 l2 l3 hp
  simp only
  go_enter Tryz.func15, Tryz.ntmps15; (try simp only [List.append_eq, List.cons_append, List.nil_append])
  go_wp2_with fail
  (go_at_call 34; refine (K1.out _).mono ?_; rintro e w2 ⟨rfl, hb_w2⟩; have hz_w2 := hb_w2.size; (try simp at hz_w2); (with_reducible apply cel2 (b := w.heap.size) hb_w2); (focus ((try simp) <;> omega)); (focus omega); (iterate 2 (focus (go_simp; try exact rfl))); (focus (intro o; go_simp)); intro c_w2_0_0 c_w2_0_1 fz_w2_0 hl_w2_0; (with_reducible apply cel2 (b := w.heap.size + 1) hb_w2); (focus ((try simp) <;> omega)); (focus omega); (iterate 2 (focus (go_simp; try exact rfl))); (focus (intro o; go_simp)); intro c_w2_1_0 c_w2_1_1 fz_w2_1 hl_w2_1; (with_reducible apply cel2 (b := w.heap.size + 1 + 1) hb_w2); (focus ((try simp) <;> omega)); (focus omega); (iterate 2 (focus (go_simp; try exact rfl))); (focus (intro o; go_simp)); intro c_w2_2_0 c_w2_2_1 fz_w2_2 hl_w2_2; (with_reducible apply cel6 (b := w.heap.size + 1 + 1 + 1) hb_w2); (focus ((try simp) <;> omega)); (focus omega); (iterate 6 (focus (go_simp; try exact rfl))); (focus (intro o; go_simp)); intro c_w2_3_0 c_w2_3_1 c_w2_3_2 c_w2_3_3 c_w2_3_4 c_w2_3_5 fz_w2_3 hl_w2_3)
  have HB2 := Lib.hid (show Below w.heap.size w w2 by ((with_reducible (repeat (first | exact bR _ _ | refine bS ?_ ?_ _ | refine bA ?_ ?_ _ | refine bD ?_ | refine bT ?_ (by assumption) ?_ | refine bO (by assumption) ?_ ?_))) <;> (first | omega | (simp <;> omega))))
  have hz2 : w.heap.size + 1 + 1 + 1 + 1 ≤ w2.heap.size := by omega
  clear hb_w2
  skip
  go_wp2_with fail
  (go_at_call 34; refine (K2.out _).mono ?_; rintro e w3 ⟨rfl, hb_w3⟩; have hz_w3 := hb_w3.size; (try simp at hz_w3); (with_reducible apply cel2 (b := w.heap.size) hb_w3); (focus ((try simp) <;> omega)); (focus omega); (iterate 2 (focus (go_simp; try exact rfl))); (focus (intro o; go_simp)); intro c_w3_0_0 c_w3_0_1 fz_w3_0 hl_w3_0; (with_reducible apply cel2 (b := w.heap.size + 1) hb_w3); (focus ((try simp) <;> omega)); (focus omega); (iterate 2 (focus (go_simp; try exact rfl))); (focus (intro o; go_simp)); intro c_w3_1_0 c_w3_1_1 fz_w3_1 hl_w3_1; (with_reducible apply cel2 (b := w.heap.size + 1 + 1) hb_w3); (focus ((try simp) <;> omega)); (focus omega); (iterate 2 (focus (go_simp; try exact rfl))); (focus (intro o; go_simp)); intro c_w3_2_0 c_w3_2_1 fz_w3_2 hl_w3_2; (with_reducible apply cel6 (b := w.heap.size + 1 + 1 + 1) hb_w3); (focus ((try simp) <;> omega)); (focus omega); (iterate 6 (focus (go_simp; try exact rfl))); (focus (intro o; go_simp)); intro c_w3_3_0 c_w3_3_1 c_w3_3_2 c_w3_3_3 c_w3_3_4 c_w3_3_5 fz_w3_3 hl_w3_3)
  have HB3 := Lib.hid (show Below w.heap.size w w3 by have hB := HB2.out; ((with_reducible (repeat (first | exact bR _ _ | refine bS ?_ ?_ _ | refine bA ?_ ?_ _ | refine bD ?_ | refine bT ?_ (by assumption) ?_ | refine bO (by assumption) ?_ ?_))) <;> (first | omega | (simp <;> omega))))
  have hz3 : w.heap.size + 1 + 1 + 1 + 1 ≤ w3.heap.size := by omega
  clear hb_w3
  clear c_w2_0_0 c_w2_0_1 fz_w2_0 hl_w2_0 c_w2_1_0 c_w2_1_1 fz_w2_1 hl_w2_1 c_w2_2_0 c_w2_2_1 fz_w2_2 hl_w2_2 c_w2_3_0 c_w2_3_1 c_w2_3_2 c_w2_3_3 c_w2_3_4 c_w2_3_5 fz_w2_3 hl_w2_3
  go_wp2_with fail
  (go_at_call 35; refine (K3.out _).mono ?_; rintro e w4 ⟨rfl, hb_w4⟩; have hz_w4 := hb_w4.size; (try simp at hz_w4); (with_reducible apply cel2 (b := w.heap.size) hb_w4); (focus ((try simp) <;> omega)); (focus omega); (iterate 2 (focus (go_simp; try exact rfl))); (focus (intro o; go_simp)); intro c_w4_0_0 c_w4_0_1 fz_w4_0 hl_w4_0; (with_reducible apply cel2 (b := w.heap.size + 1) hb_w4); (focus ((try simp) <;> omega)); (focus omega); (iterate 2 (focus (go_simp; try exact rfl))); (focus (intro o; go_simp)); intro c_w4_1_0 c_w4_1_1 fz_w4_1 hl_w4_1; (with_reducible apply cel2 (b := w.heap.size + 1 + 1) hb_w4); (focus ((try simp) <;> omega)); (focus omega); (iterate 2 (focus (go_simp; try exact rfl))); (focus (intro o; go_simp)); intro c_w4_2_0 c_w4_2_1 fz_w4_2 hl_w4_2; (with_reducible apply cel6 (b := w.heap.size + 1 + 1 + 1) hb_w4); (focus ((try simp) <;> omega)); (focus omega); (iterate 6 (focus (go_simp; try exact rfl))); (focus (intro o; go_simp)); intro c_w4_3_0 c_w4_3_1 c_w4_3_2 c_w4_3_3 c_w4_3_4 c_w4_3_5 fz_w4_3 hl_w4_3)
  have HB4 := Lib.hid (show Below w.heap.size w w4 by have hB := HB3.out; ((with_reducible (repeat (first | exact bR _ _ | refine bS ?_ ?_ _ | refine bA ?_ ?_ _ | refine bD ?_ | refine bT ?_ (by assumption) ?_ | refine bO (by assumption) ?_ ?_))) <;> (first | omega | (simp <;> omega))))
  have hz4 : w.heap.size + 1 + 1 + 1 + 1 ≤ w4.heap.size := by omega
  clear hb_w4
  clear c_w3_0_0 c_w3_0_1 fz_w3_0 hl_w3_0 c_w3_1_0 c_w3_1_1 fz_w3_1 hl_w3_1 c_w3_2_0 c_w3_2_1 fz_w3_2 hl_w3_2 c_w3_3_0 c_w3_3_1 c_w3_3_2 c_w3_3_3 c_w3_3_4 c_w3_3_5 fz_w3_3 hl_w3_3
  go_wp2_with fail
  (go_at_call 41; refine (K4.out _).mono ?_; rintro e w5 ⟨rfl, hb_w5⟩; have hz_w5 := hb_w5.size; (try simp at hz_w5); (with_reducible apply cel2 (b := w.heap.size) hb_w5); (focus ((try simp) <;> omega)); (focus omega); (iterate 2 (focus (go_simp; try exact rfl))); (focus (intro o; go_simp)); intro c_w5_0_0 c_w5_0_1 fz_w5_0 hl_w5_0; (with_reducible apply cel2 (b := w.heap.size + 1) hb_w5); (focus ((try simp) <;> omega)); (focus omega); (iterate 2 (focus (go_simp; try exact rfl))); (focus (intro o; go_simp)); intro c_w5_1_0 c_w5_1_1 fz_w5_1 hl_w5_1; (with_reducible apply cel2 (b := w.heap.size + 1 + 1) hb_w5); (focus ((try simp) <;> omega)); (focus omega); (iterate 2 (focus (go_simp; try exact rfl))); (focus (intro o; go_simp)); intro c_w5_2_0 c_w5_2_1 fz_w5_2 hl_w5_2; (with_reducible apply cel6 (b := w.heap.size + 1 + 1 + 1) hb_w5); (focus ((try simp) <;> omega)); (focus omega); (iterate 6 (focus (go_simp; try exact rfl))); (focus (intro o; go_simp)); intro c_w5_3_0 c_w5_3_1 c_w5_3_2 c_w5_3_3 c_w5_3_4 c_w5_3_5 fz_w5_3 hl_w5_3)
  have HB5 := Lib.hid (show Below w.heap.size w w5 by have hB := HB4.out; ((with_reducible (repeat (first | exact bR _ _ | refine bS ?_ ?_ _ | refine bA ?_ ?_ _ | refine bD ?_ | refine bT ?_ (by assumption) ?_ | refine bO (by assumption) ?_ ?_))) <;> (first | omega | (simp <;> omega))))
  have hz5 : w.heap.size + 1 + 1 + 1 + 1 ≤ w5.heap.size := by omega
  clear hb_w5
  clear c_w4_0_0 c_w4_0_1 fz_w4_0 hl_w4_0 c_w4_1_0 c_w4_1_1 fz_w4_1 hl_w4_1 c_w4_2_0 c_w4_2_1 fz_w4_2 hl_w4_2 c_w4_3_0 c_w4_3_1 c_w4_3_2 c_w4_3_3 c_w4_3_4 c_w4_3_5 fz_w4_3 hl_w4_3
  go_wp2_with fail
  (go_at_call 41; refine (K5.out _).mono ?_; rintro e w6 ⟨rfl, hb_w6⟩; have hz_w6 := hb_w6.size; (try simp at hz_w6); (with_reducible apply cel2 (b := w.heap.size) hb_w6); (focus ((try simp) <;> omega)); (focus omega); (iterate 2 (focus (go_simp; try exact rfl))); (focus (intro o; go_simp)); intro c_w6_0_0 c_w6_0_1 fz_w6_0 hl_w6_0; (with_reducible apply cel2 (b := w.heap.size + 1) hb_w6); (focus ((try simp) <;> omega)); (focus omega); (iterate 2 (focus (go_simp; try exact rfl))); (focus (intro o; go_simp)); intro c_w6_1_0 c_w6_1_1 fz_w6_1 hl_w6_1; (with_reducible apply cel2 (b := w.heap.size + 1 + 1) hb_w6); (focus ((try simp) <;> omega)); (focus omega); (iterate 2 (focus (go_simp; try exact rfl))); (focus (intro o; go_simp)); intro c_w6_2_0 c_w6_2_1 fz_w6_2 hl_w6_2; (with_reducible apply cel6 (b := w.heap.size + 1 + 1 + 1) hb_w6); (focus ((try simp) <;> omega)); (focus omega); (iterate 6 (focus (go_simp; try exact rfl))); (focus (intro o; go_simp)); intro c_w6_3_0 c_w6_3_1 c_w6_3_2 c_w6_3_3 c_w6_3_4 c_w6_3_5 fz_w6_3 hl_w6_3)
  have HB6 := Lib.hid (show Below w.heap.size w w6 by have hB := HB5.out; ((with_reducible (repeat (first | exact bR _ _ | refine bS ?_ ?_ _ | refine bA ?_ ?_ _ | refine bD ?_ | refine bT ?_ (by assumption) ?_ | refine bO (by assumption) ?_ ?_))) <;> (first | omega | (simp <;> omega))))
  have hz6 : w.heap.size + 1 + 1 + 1 + 1 ≤ w6.heap.size := by omega
  clear hb_w6
  clear c_w5_0_0 c_w5_0_1 fz_w5_0 hl_w5_0 c_w5_1_0 c_w5_1_1 fz_w5_1 hl_w5_1 c_w5_2_0 c_w5_2_1 fz_w5_2 hl_w5_2 c_w5_3_0 c_w5_3_1 c_w5_3_2 c_w5_3_3 c_w5_3_4 c_w5_3_5 fz_w5_3 hl_w5_3
  go_wp2_with fail
  (go_at_call 13; refine (K6.out _).mono ?_; rintro e w7 ⟨rfl, hb_w7⟩; have hz_w7 := hb_w7.size; (try simp at hz_w7); (with_reducible apply cel2 (b := w.heap.size) hb_w7); (focus ((try simp) <;> omega)); (focus omega); (iterate 2 (focus (go_simp; try exact rfl))); (focus (intro o; go_simp)); intro c_w7_0_0 c_w7_0_1 fz_w7_0 hl_w7_0; (with_reducible apply cel2 (b := w.heap.size + 1) hb_w7); (focus ((try simp) <;> omega)); (focus omega); (iterate 2 (focus (go_simp; try exact rfl))); (focus (intro o; go_simp)); intro c_w7_1_0 c_w7_1_1 fz_w7_1 hl_w7_1; (with_reducible apply cel2 (b := w.heap.size + 1 + 1) hb_w7); (focus ((try simp) <;> omega)); (focus omega); (iterate 2 (focus (go_simp; try exact rfl))); (focus (intro o; go_simp)); intro c_w7_2_0 c_w7_2_1 fz_w7_2 hl_w7_2; (with_reducible apply cel6 (b := w.heap.size + 1 + 1 + 1) hb_w7); (focus ((try simp) <;> omega)); (focus omega); (iterate 6 (focus (go_simp; try exact rfl))); (focus (intro o; go_simp)); intro c_w7_3_0 c_w7_3_1 c_w7_3_2 c_w7_3_3 c_w7_3_4 c_w7_3_5 fz_w7_3 hl_w7_3)
  have HB7 := Lib.hid (show Below w.heap.size w w7 by have hB := HB6.out; ((with_reducible (repeat (first | exact bR _ _ | refine bS ?_ ?_ _ | refine bA ?_ ?_ _ | refine bD ?_ | refine bT ?_ (by assumption) ?_ | refine bO (by assumption) ?_ ?_))) <;> (first | omega | (simp <;> omega))))
  have hz7 : w.heap.size + 1 + 1 + 1 + 1 ≤ w7.heap.size := by omega
  clear hb_w7
  clear c_w6_0_0 c_w6_0_1 fz_w6_0 hl_w6_0 c_w6_1_0 c_w6_1_1 fz_w6_1 hl_w6_1 c_w6_2_0 c_w6_2_1 fz_w6_2 hl_w6_2 c_w6_3_0 c_w6_3_1 c_w6_3_2 c_w6_3_3 c_w6_3_4 c_w6_3_5 fz_w6_3 hl_w6_3
  go_wp2_with fail
  (go_at_call 37; refine (K7.out _).mono ?_; rintro e w8 ⟨rfl, hb_w8⟩; have hz_w8 := hb_w8.size; (try simp at hz_w8); (with_reducible apply cel2 (b := w.heap.size) hb_w8); (focus ((try simp) <;> omega)); (focus omega); (iterate 2 (focus (go_simp; try exact rfl))); (focus (intro o; go_simp)); intro c_w8_0_0 c_w8_0_1 fz_w8_0 hl_w8_0; (with_reducible apply cel2 (b := w.heap.size + 1 + 1) hb_w8); (focus ((try simp) <;> omega)); (focus omega); (iterate 2 (focus (go_simp; try exact rfl))); (focus (intro o; go_simp)); intro c_w8_1_0 c_w8_1_1 fz_w8_1 hl_w8_1; (with_reducible apply cel6 (b := w.heap.size + 1 + 1 + 1) hb_w8); (focus ((try simp) <;> omega)); (focus omega); (iterate 6 (focus (go_simp; try exact rfl))); (focus (intro o; go_simp)); intro c_w8_2_0 c_w8_2_1 c_w8_2_2 c_w8_2_3 c_w8_2_4 c_w8_2_5 fz_w8_2 hl_w8_2)
  have HB8 := Lib.hid (show Below w.heap.size w w8 by have hB := HB7.out; ((with_reducible (repeat (first | exact bR _ _ | refine bS ?_ ?_ _ | refine bA ?_ ?_ _ | refine bD ?_ | refine bT ?_ (by assumption) ?_ | refine bO (by assumption) ?_ ?_))) <;> (first | omega | (simp <;> omega))))
  have hz8 : w.heap.size + 1 + 1 + 1 + 1 ≤ w8.heap.size := by omega
  clear hb_w8
  clear c_w7_0_0 c_w7_0_1 fz_w7_0 hl_w7_0 c_w7_1_0 c_w7_1_1 fz_w7_1 hl_w7_1 c_w7_2_0 c_w7_2_1 fz_w7_2 hl_w7_2 c_w7_3_0 c_w7_3_1 c_w7_3_2 c_w7_3_3 c_w7_3_4 c_w7_3_5 fz_w7_3 hl_w7_3
  go_wp2_with fail
  (refine pin_wp (N := _) (Nat.le_refl _) (fun w9 hb_w9 hz_w9 => ?_); (try simp at hz_w9); (with_reducible apply cel2 (b := w.heap.size) hb_w9); (focus ((try simp) <;> omega)); (focus omega); (iterate 2 (focus (go_simp; try exact rfl))); (focus (intro o; go_simp)); intro c_w9_0_0 c_w9_0_1 fz_w9_0 hl_w9_0; (with_reducible apply cel2 (b := w.heap.size + 1 + 1) hb_w9); (focus ((try simp) <;> omega)); (focus omega); (iterate 2 (focus (go_simp; try exact rfl))); (focus (intro o; go_simp)); intro c_w9_1_0 c_w9_1_1 fz_w9_1 hl_w9_1; (with_reducible apply cel6 (b := w.heap.size + 1 + 1 + 1) hb_w9); (focus ((try simp) <;> omega)); (focus omega); (iterate 6 (focus (go_simp; try exact rfl))); (focus (intro o; go_simp)); intro c_w9_2_0 c_w9_2_1 c_w9_2_2 c_w9_2_3 c_w9_2_4 c_w9_2_5 fz_w9_2 hl_w9_2; (with_reducible apply cel2 (b := w8.heap.size) hb_w9); (focus ((try simp) <;> omega)); (focus omega); (iterate 2 (focus (go_simp; try exact rfl))); (focus (intro o; go_simp)); intro c_w9_3_0 c_w9_3_1 fz_w9_3 hl_w9_3); refine wp_q (fun Q_ HQ_ => ?_); refine wp_region_floatQ w9.heap.size 8 [] (Nat.le_refl _) (fun _ => True) trivial Cl.tt (by kernel_rfl) (by kernel_rfl) ?_
  have HB9 := Lib.hid (show Below w.heap.size w w9 by have hB := HB8.out; ((with_reducible (repeat (first | exact bR _ _ | refine bS ?_ ?_ _ | refine bA ?_ ?_ _ | refine bD ?_ | refine bT ?_ (by assumption) ?_ | refine bO (by assumption) ?_ ?_))) <;> (first | omega | (simp <;> omega))))
  have hz9 : w.heap.size + 1 + 1 + 1 + 1 ≤ w9.heap.size := by omega
  clear hb_w9
  clear c_w8_0_0 c_w8_0_1 fz_w8_0 hl_w8_0 c_w8_1_0 c_w8_1_1 fz_w8_1 hl_w8_1 c_w8_2_0 c_w8_2_1 c_w8_2_2 c_w8_2_3 c_w8_2_4 c_w8_2_5 fz_w8_2 hl_w8_2
  refine wpQI_start [0, 1] ?_; (iterate 2 (first | (apply wpQI_step (by with_reducible (refine zA ?_; (repeat (first | exact zB | refine zC ?_)))) (by kernel_rfl) (by exact rfl); (focus (intro W' hS; have hcS := hS.cells.1; have hfS := hS.cells.2; go_simp; (first | done | exact rfl | exact bB _ | (go_simp; first | done | exact rfl | exact bB _)))); intro K hK; go_simp; (try go_bits); refine hK _ ?_; clear hK K))); refine wpQI_nil ?_
  refine wpQI_start [3, 4] ?_; (iterate 2 (first | (apply wpQI_step (by with_reducible (refine zA ?_; (repeat (first | exact zB | refine zC ?_)))) (by kernel_rfl) (by exact rfl); (focus (intro W' hS; have hcS := hS.cells.1; have hfS := hS.cells.2; go_simp; (first | done | exact rfl | exact bB _ | (go_simp; first | done | exact rfl | exact bB _)))); intro K hK; go_simp; (try go_bits); refine hK _ ?_; clear hK K))); refine wpQI_nil ?_
  refine wpQI_start [2] ?_; (iterate 1 (first | (apply wpQI_step (by with_reducible (refine zA ?_; (repeat (first | exact zB | refine zC ?_)))) (by kernel_rfl) (by exact rfl); (focus (intro W' hS; have hcS := hS.cells.1; have hfS := hS.cells.2; go_simp; (first | done | exact rfl | exact ⟨rfl, Below.refl _ _⟩ | (go_at_call 36; exact (K8.out _).mono (fun _ _ h => ⟨h.1, h.2⟩)) | (go_simp; first | done | exact rfl | exact ⟨rfl, Below.refl _ _⟩)))); intro K hK; go_simp; (try go_bits); refine hK _ ?_; clear hK K))); refine wpQI_nil ?_
  refine wpQI_start [5] ?_; (iterate 1 (first | (apply wpQI_step (by with_reducible (refine zA ?_; (repeat (first | exact zB | refine zC ?_)))) (by kernel_rfl) (by exact rfl); (focus (intro W' hS; have hcS := hS.cells.1; have hfS := hS.cells.2; go_simp; (first | done | exact rfl | exact ⟨rfl, Below.refl _ _⟩ | (go_at_call 36; exact (K9.out _).mono (fun _ _ h => ⟨h.1, h.2⟩)) | (go_simp; first | done | exact rfl | exact ⟨rfl, Below.refl _ _⟩)))); intro K hK; go_simp; (try go_bits); refine hK _ ?_; clear hK K))); refine wpQI_nil ?_
  refine wpQI_start [6, 7] ?_; (iterate 2 (first | (apply wpQI_step (by with_reducible (refine zA ?_; (repeat (first | exact zB | refine zC ?_)))) (by kernel_rfl) (by exact rfl); (focus (intro W' hS; have hcS := hS.cells.1; have hfS := hS.cells.2; go_simp; (first | done | exact rfl | exact bB _ | (go_simp; first | done | exact rfl | exact bB _)))); intro K hK; go_simp; (try go_bits); refine hK _ ?_; clear hK K))); refine wpQI_nil ?_
  refine wpQ_done (by kernel_rfl) ?_
  intro w10 hF_w10 hSG
  have hz_w10 := hSG.1.1
  have hb_w10 := hSG.1.2
  clear hSG
  (with_reducible apply cel2 (b := w.heap.size) hb_w10); (focus ((try simp) <;> omega)); (focus omega); (iterate 2 (focus (go_simp; try exact rfl))); (focus (intro o; go_simp)); intro c_w10_0_0 c_w10_0_1 fz_w10_0 hl_w10_0; (with_reducible apply cel2 (b := w.heap.size + 1 + 1) hb_w10); (focus ((try simp) <;> omega)); (focus omega); (iterate 2 (focus (go_simp; try exact rfl))); (focus (intro o; go_simp)); intro c_w10_1_0 c_w10_1_1 fz_w10_1 hl_w10_1; (with_reducible apply cel6 (b := w.heap.size + 1 + 1 + 1) hb_w10); (focus ((try simp) <;> omega)); (focus omega); (iterate 6 (focus (go_simp; try exact rfl))); (focus (intro o; go_simp)); intro c_w10_2_0 c_w10_2_1 c_w10_2_2 c_w10_2_3 c_w10_2_4 c_w10_2_5 fz_w10_2 hl_w10_2; (with_reducible apply cel2 (b := w8.heap.size) hb_w10); (focus ((try simp) <;> omega)); (focus omega); (iterate 2 (focus (go_simp; try exact rfl))); (focus (intro o; go_simp)); intro c_w10_3_0 c_w10_3_1 fz_w10_3 hl_w10_3
  (try simp only [List.filterMap_nil])
  have HB10 := Lib.hid (HB9.out.trans (hb_w10.mono (by have := HB9.out.size; omega)))
  have hz10 : w.heap.size + 1 + 1 + 1 + 1 ≤ w10.heap.size := by omega
  clear hF_w10 hb_w10
  clear c_w9_0_0 c_w9_0_1 fz_w9_0 hl_w9_0 c_w9_1_0 c_w9_1_1 fz_w9_1 hl_w9_1 c_w9_2_0 c_w9_2_1 c_w9_2_2 c_w9_2_3 c_w9_2_4 c_w9_2_5 fz_w9_2 hl_w9_2 c_w9_3_0 c_w9_3_1 fz_w9_3 hl_w9_3
  go_wp2_with fail
  refine HQ_.out _ _ _ ?_
  clear HQ_ Q_
  go_wp2_with fail
  (go_at_call 42; refine (K10.out _).mono ?_; rintro e w11 ⟨hb_w11, v11, rfl, hv11⟩; have hz_w11 := hb_w11.size; (try simp at hz_w11); (with_reducible apply cel2 (b := w.heap.size) hb_w11); (focus ((try simp) <;> omega)); (focus omega); (iterate 2 (focus (go_simp; try exact rfl))); (focus (intro o; go_simp)); intro c_w11_0_0 c_w11_0_1 fz_w11_0 hl_w11_0; (with_reducible apply cel2 (b := w.heap.size + 1 + 1) hb_w11); (focus ((try simp) <;> omega)); (focus omega); (iterate 2 (focus (go_simp; try exact rfl))); (focus (intro o; go_simp)); intro c_w11_1_0 c_w11_1_1 fz_w11_1 hl_w11_1; (with_reducible apply cel6 (b := w.heap.size + 1 + 1 + 1) hb_w11); (focus ((try simp) <;> omega)); (focus omega); (iterate 6 (focus (go_simp; try exact rfl))); (focus (intro o; go_simp)); intro c_w11_2_0 c_w11_2_1 c_w11_2_2 c_w11_2_3 c_w11_2_4 c_w11_2_5 fz_w11_2 hl_w11_2; (with_reducible apply cel2 (b := w8.heap.size) hb_w11); (focus ((try simp) <;> omega)); (focus omega); (iterate 2 (focus (go_simp; try exact rfl))); (focus (intro o; go_simp)); intro c_w11_3_0 c_w11_3_1 fz_w11_3 hl_w11_3)
  obtain ⟨s11, A11, n11, c11, rfl⟩ := IsC.val hv11
  have HB11 := Lib.hid (show Below w.heap.size w w11 by have hB := HB10.out; ((with_reducible (repeat (first | exact bR _ _ | refine bS ?_ ?_ _ | refine bA ?_ ?_ _ | refine bD ?_ | refine bT ?_ (by assumption) ?_ | refine bO (by assumption) ?_ ?_))) <;> (first | omega | (simp <;> omega))))
  have hz11 : w.heap.size + 1 + 1 + 1 + 1 ≤ w11.heap.size := by omega
  clear hb_w11
  clear c_w10_0_0 c_w10_0_1 fz_w10_0 hl_w10_0 c_w10_1_0 c_w10_1_1 fz_w10_1 hl_w10_1 c_w10_2_0 c_w10_2_1 c_w10_2_2 c_w10_2_3 c_w10_2_4 c_w10_2_5 fz_w10_2 hl_w10_2 c_w10_3_0 c_w10_3_1 fz_w10_3 hl_w10_3
  have H11 := Lib.hid (show IsC w11 (.agg #[.bool s11, .slice A11 n11 c11]) ((16 * M)) from hv11)
  clear hv11
  go_wp2_with fail
  (go_at_call 43; refine (K11.out _ _ ((show IsC _ (.agg #[.bool s11, .slice A11 n11 c11]) ((16 * M)) by ((repeat (first | (with_reducible exact H11.out) | (with_reducible refine IsC.al ?_ _) | (with_reducible apply IsC.st1))) <;> (first | (with_reducible assumption) | (intro _ e; cases e; done) | (go_simp; first | done | exact rfl)))))).mono ?_; rintro e w12 ⟨hb_w12, v12, rfl, hv12⟩; have hz_w12 := hb_w12.size; (try simp at hz_w12); (with_reducible apply cel2 (b := w.heap.size) hb_w12); (focus ((try simp) <;> omega)); (focus omega); (iterate 2 (focus (go_simp; try exact rfl))); (focus (intro o; go_simp)); intro c_w12_0_0 c_w12_0_1 fz_w12_0 hl_w12_0; (with_reducible apply cel2 (b := w.heap.size + 1 + 1) hb_w12); (focus ((try simp) <;> omega)); (focus omega); (iterate 2 (focus (go_simp; try exact rfl))); (focus (intro o; go_simp)); intro c_w12_1_0 c_w12_1_1 fz_w12_1 hl_w12_1; (with_reducible apply cel6 (b := w.heap.size + 1 + 1 + 1) hb_w12); (focus ((try simp) <;> omega)); (focus omega); (iterate 6 (focus (go_simp; try exact rfl))); (focus (intro o; go_simp)); intro c_w12_2_0 c_w12_2_1 c_w12_2_2 c_w12_2_3 c_w12_2_4 c_w12_2_5 fz_w12_2 hl_w12_2; (with_reducible apply cel2 (b := w8.heap.size) hb_w12); (focus ((try simp) <;> omega)); (focus omega); (iterate 2 (focus (go_simp; try exact rfl))); (focus (intro o; go_simp)); intro c_w12_3_0 c_w12_3_1 fz_w12_3 hl_w12_3; (with_reducible apply cel2 (b := w11.heap.size) hb_w12); (focus ((try simp) <;> omega)); (focus omega); (iterate 2 (focus (go_simp; try exact rfl))); (focus (intro o; go_simp)); intro c_w12_4_0 c_w12_4_1 fz_w12_4 hl_w12_4)
  obtain ⟨s12, A12, n12, c12, rfl⟩ := IsC.val hv12
  replace H11 := Lib.hid (IsC.below (v := .agg #[.bool s11, .slice A11 n11 c11]) (z := (16 * M)) (by ((repeat (first | (with_reducible exact H11.out) | (with_reducible refine IsC.al ?_ _) | (with_reducible apply IsC.st1))) <;> (first | (with_reducible assumption) | (intro _ e; cases e; done) | (go_simp; first | done | exact rfl)))) hb_w12)
  have HB12 := Lib.hid (show Below w.heap.size w w12 by have hB := HB11.out; ((with_reducible (repeat (first | exact bR _ _ | refine bS ?_ ?_ _ | refine bA ?_ ?_ _ | refine bD ?_ | refine bT ?_ (by assumption) ?_ | refine bO (by assumption) ?_ ?_))) <;> (first | omega | (simp <;> omega))))
  have hz12 : w.heap.size + 1 + 1 + 1 + 1 ≤ w12.heap.size := by omega
  clear hb_w12
  clear c_w11_0_0 c_w11_0_1 fz_w11_0 hl_w11_0 c_w11_1_0 c_w11_1_1 fz_w11_1 hl_w11_1 c_w11_2_0 c_w11_2_1 c_w11_2_2 c_w11_2_3 c_w11_2_4 c_w11_2_5 fz_w11_2 hl_w11_2 c_w11_3_0 c_w11_3_1 fz_w11_3 hl_w11_3
  have H12 := Lib.hid (show IsC w12 (.agg #[.bool s12, .slice A12 n12 c12]) (X) from hv12)
  clear hv12
  go_wp2_with fail
  (go_at_call 43; refine (K12.out _ _ ((show IsC _ (.agg #[.bool s11, .slice A11 n11 c11]) ((16 * M)) by ((repeat (first | (with_reducible exact H11.out) | (with_reducible refine IsC.al ?_ _) | (with_reducible apply IsC.st1))) <;> (first | (with_reducible assumption) | (intro _ e; cases e; done) | (go_simp; first | done | exact rfl)))))).mono ?_; rintro e w13 ⟨hb_w13, v13, rfl, hv13⟩; have hz_w13 := hb_w13.size; (try simp at hz_w13); (with_reducible apply cel6 (b := w.heap.size + 1 + 1 + 1) hb_w13); (focus ((try simp) <;> omega)); (focus omega); (iterate 6 (focus (go_simp; try exact rfl))); (focus (intro o; go_simp)); intro c_w13_0_0 c_w13_0_1 c_w13_0_2 c_w13_0_3 c_w13_0_4 c_w13_0_5 fz_w13_0 hl_w13_0; (with_reducible apply cel2 (b := w11.heap.size) hb_w13); (focus ((try simp) <;> omega)); (focus omega); (iterate 2 (focus (go_simp; try exact rfl))); (focus (intro o; go_simp)); intro c_w13_1_0 c_w13_1_1 fz_w13_1 hl_w13_1; (with_reducible apply cel2 (b := w12.heap.size) hb_w13); (focus ((try simp) <;> omega)); (focus omega); (iterate 2 (focus (go_simp; try exact rfl))); (focus (intro o; go_simp)); intro c_w13_2_0 c_w13_2_1 fz_w13_2 hl_w13_2)
  obtain ⟨s13, A13, n13, c13, rfl⟩ := IsC.val hv13
  replace H11 := Lib.hid (IsC.below (v := .agg #[.bool s11, .slice A11 n11 c11]) (z := (16 * M)) (by ((repeat (first | (with_reducible exact H11.out) | (with_reducible refine IsC.al ?_ _) | (with_reducible apply IsC.st1))) <;> (first | (with_reducible assumption) | (intro _ e; cases e; done) | (go_simp; first | done | exact rfl)))) hb_w13)
  replace H12 := Lib.hid (IsC.below (v := .agg #[.bool s12, .slice A12 n12 c12]) (z := X) (by ((repeat (first | (with_reducible exact H12.out) | (with_reducible refine IsC.al ?_ _) | (with_reducible apply IsC.st1))) <;> (first | (with_reducible assumption) | (intro _ e; cases e; done) | (go_simp; first | done | exact rfl)))) hb_w13)
  have HB13 := Lib.hid (show Below w.heap.size w w13 by have hB := HB12.out; ((with_reducible (repeat (first | exact bR _ _ | refine bS ?_ ?_ _ | refine bA ?_ ?_ _ | refine bD ?_ | refine bT ?_ (by assumption) ?_ | refine bO (by assumption) ?_ ?_))) <;> (first | omega | (simp <;> omega))))
  have hz13 : w.heap.size + 1 + 1 + 1 + 1 ≤ w13.heap.size := by omega
  clear hb_w13
  clear c_w12_0_0 c_w12_0_1 fz_w12_0 hl_w12_0 c_w12_1_0 c_w12_1_1 fz_w12_1 hl_w12_1 c_w12_2_0 c_w12_2_1 c_w12_2_2 c_w12_2_3 c_w12_2_4 c_w12_2_5 fz_w12_2 hl_w12_2 c_w12_3_0 c_w12_3_1 fz_w12_3 hl_w12_3 c_w12_4_0 c_w12_4_1 fz_w12_4 hl_w12_4
  have H13 := Lib.hid (show IsC w13 (.agg #[.bool s13, .slice A13 n13 c13]) (Y) from hv13)
  clear hv13
  go_wp2_with fail
  (go_at_call 38; refine (K13.out _ _ (⟨_, _, _, _, _, _, _, _, _, _, _, _, rfl, (show IsC _ (.agg #[.bool s12, .slice A12 n12 c12]) (X) by ((repeat (first | (with_reducible exact H12.out) | (with_reducible refine IsC.al ?_ _) | (with_reducible apply IsC.st1))) <;> (first | (with_reducible assumption) | (intro _ e; cases e; done) | (go_simp; first | done | exact rfl)))), (show IsC _ (.agg #[.bool s13, .slice A13 n13 c13]) (Y) by ((repeat (first | (with_reducible exact H13.out) | (with_reducible refine IsC.al ?_ _) | (with_reducible apply IsC.st1))) <;> (first | (with_reducible assumption) | (intro _ e; cases e; done) | (go_simp; first | done | exact rfl)))), (show IsC _ (.agg #[.bool s11, .slice A11 n11 c11]) ((16 * M)) by ((repeat (first | (with_reducible exact H11.out) | (with_reducible refine IsC.al ?_ _) | (with_reducible apply IsC.st1))) <;> (first | (with_reducible assumption) | (intro _ e; cases e; done) | (go_simp; first | done | exact rfl))))⟩)).mono ?_; rintro e w14 ⟨hb_w14, v14, rfl, hv14⟩; have hz_w14 := hb_w14.size; (try simp at hz_w14); (with_reducible apply cel6 (b := w.heap.size + 1 + 1 + 1) hb_w14); (focus ((try simp) <;> omega)); (focus omega); (iterate 6 (focus (go_simp; try exact rfl))); (focus (intro o; go_simp)); intro c_w14_0_0 c_w14_0_1 c_w14_0_2 c_w14_0_3 c_w14_0_4 c_w14_0_5 fz_w14_0 hl_w14_0)
  obtain ⟨s14x, A14x, n14x, c14x, s14y, A14y, n14y, c14y, s14d, A14d, n14d, c14d, rfl⟩ := RAt.val hv14
  clear H11
  clear H12
  clear H13
  have HB14 := Lib.hid (show Below w.heap.size w w14 by have hB := HB13.out; ((with_reducible (repeat (first | exact bR _ _ | refine bS ?_ ?_ _ | refine bA ?_ ?_ _ | refine bD ?_ | refine bT ?_ (by assumption) ?_ | refine bO (by assumption) ?_ ?_))) <;> (first | omega | (simp <;> omega))))
  have hz14 : w.heap.size + 1 + 1 + 1 + 1 ≤ w14.heap.size := by omega
  clear hb_w14
  clear c_w13_0_0 c_w13_0_1 c_w13_0_2 c_w13_0_3 c_w13_0_4 c_w13_0_5 fz_w13_0 hl_w13_0 c_w13_1_0 c_w13_1_1 fz_w13_1 hl_w13_1 c_w13_2_0 c_w13_2_1 fz_w13_2 hl_w13_2
  have H14 := Lib.hid (show RAt w14 (.agg #[.bool s14x, .slice A14x n14x c14x, .bool s14y, .slice A14y n14y c14y, .bool s14d, .slice A14d n14d c14d]) (RX) (RY) (RD) from hv14)
  clear hv14
  go_wp2_with fail
  refine bodyPost_ret (v := .agg #[.bool s14x, .slice A14x n14x c14x, .bool s14y, .slice A14y n14y c14y, .bool s14d, .slice A14d n14d c14d]) (by simp only [results, Tryz.results15]; go_simp) rfl ⟨?_, ?_⟩
  · have hB := HB14.out; ((with_reducible (repeat (first | exact bR _ _ | refine bS ?_ ?_ _ | refine bA ?_ ?_ _ | refine bD ?_ | refine bT ?_ (by assumption) ?_ | refine bO (by assumption) ?_ ?_))) <;> (first | omega | (simp <;> omega)))
  · exact ⟨_, rfl, (by ((repeat (first | (with_reducible exact H14.out) | (with_reducible refine RAt.al ?_ _) | (with_reducible apply RAt.st1))) <;> (first | (with_reducible assumption) | (intro _ e; cases e; done) | (go_simp; first | done | exact rfl))))⟩
theorem static_any (v1 v2 w1 w2 n1 n2 rest grip : Int) (w : World) : Calls Tryz.prog 54 #[.agg #[.int .i64 v1, .int .i64 v2], .agg #[.int .i64 w1, .int .i64 w2], .agg #[.int .i64 n1, .int .i64 n2], .int .i64 rest, .int .i64 grip] w (TOut (statR v1 v2 w1 w2 n1 n2 rest grip) w) := by
  unfold statR
  split
  · rename_i h
    have h2 := h.2
    rw [Bool.and_eq_true] at h2
    split
    · rename_i ha; exact static_on v1 v2 w1 w2 n1 n2 rest grip w h.1 h2.1 h2.2 ha
    · rename_i ha; exact static_away v1 v2 w1 w2 n1 n2 rest grip w h.1 h.2 (by simpa using ha)
  · rename_i h; exact static_bad v1 v2 w1 w2 n1 n2 rest grip w h
theorem rstatic_any (v1 v2 w1 w2 n1 n2 rest grip : Int) (w : World) : Calls Tryz.prog 15 #[.agg #[.int .i64 v1, .int .i64 v2], .agg #[.int .i64 w1, .int .i64 w2], .agg #[.int .i64 n1, .int .i64 n2], .int .i64 rest, .int .i64 grip] w (TOut (statR v1 v2 w1 w2 n1 n2 rest grip) w) := by
  unfold statR
  split
  · rename_i h
    have h2 := h.2
    rw [Bool.and_eq_true] at h2
    split
    · rename_i ha; exact rstatic_on v1 v2 w1 w2 n1 n2 rest grip w h.1 h2.1 h2.2 ha
    · rename_i ha; exact rstatic_away v1 v2 w1 w2 n1 n2 rest grip w h.1 h2.1 h2.2 (by simpa using ha)
  · rename_i h; exact rstatic_bad v1 v2 w1 w2 n1 n2 rest grip w h
theorem pair_any (v1 v2 w1 w2 n1 n2 rest : Int) (w : World) : Calls Tryz.prog 53 #[.agg #[.int .i64 v1, .int .i64 v2], .agg #[.int .i64 w1, .int .i64 w2], .agg #[.int .i64 n1, .int .i64 n2], .int .i64 rest] w (POut2 (pairR v1 v2 w1 w2 n1 n2 rest) w) := by
  unfold pairR
  split
  · rename_i h
    split
    · rename_i ha; exact pair_on v1 v2 w1 w2 n1 n2 rest w h.1 h.2 ha
    · rename_i ha; exact pair_away v1 v2 w1 w2 n1 n2 rest w h.1 h.2 (by simpa using ha)
  · rename_i h; exact pair_bad v1 v2 w1 w2 n1 n2 rest w h
def kickS (r : Int × Int × Int) (k1 k2 : Int) : Int × Int × Int := (r.1 + r.2.2 * k1, r.2.1 + r.2.2 * k2, r.2.2)
def aloneR (m : Mt) (v : List V2) (k : Int) : Int × Int × Int :=
  if ¬ m.b = -1 ∧ k = m.a then (pairR (v.getD m.a.toNat (0, 0)).1 (v.getD m.a.toNat (0, 0)).2 (v.getD m.b.toNat (0, 0)).1 (v.getD m.b.toNat (0, 0)).2 m.n1 m.n2 m.e).1
  else if ¬ m.b = -1 ∧ k = m.b then (pairR (v.getD m.a.toNat (0, 0)).1 (v.getD m.a.toNat (0, 0)).2 (v.getD m.b.toNat (0, 0)).1 (v.getD m.b.toNat (0, 0)).2 m.n1 m.n2 m.e).2
  else if k = m.a then kickS (statR (v.getD m.a.toNat (0, 0)).1 (v.getD m.a.toNat (0, 0)).2 m.w1 m.w2 m.n1 m.n2 m.e m.g) m.k1 m.k2
  else ((v.getD k.toNat (0, 0)).1, (v.getD k.toNat (0, 0)).2, 1)
theorem vat_cell {w : World} {A : Option Addr} {v : List V2} (h : VAt w A v) {k : Int} (h0 : 0 ≤ k) (h1 : k < v.length) : ∃ g o, A = some ⟨g, o, none⟩ ∧ g < w.heap.size ∧ w.cell? ⟨g, o + k.toNat * 2, none⟩ = some (.int .i64 (v.getD k.toNat (0, 0)).1) ∧ w.cell? ⟨g, o + k.toNat * 2 + 1, none⟩ = some (.int .i64 (v.getD k.toNat (0, 0)).2) := by
  obtain ⟨x, hx⟩ : ∃ x, v[k.toNat]? = some x := ⟨v[k.toNat]'(by omega), by simp⟩
  obtain ⟨g, o, hA, hg, c0, c1⟩ := h _ _ hx
  have e : v.getD k.toNat (0, 0) = x := by simp [hx]
  rw [e]
  exact ⟨g, o, hA, hg, c0, c1⟩
set_option maxRecDepth 100000 in
set_option maxHeartbeats 20000000 in
theorem alone_a (a b n1 n2 x1 x2 y1 y2 e f p1 p2 q1 q2 : Int) (g o n c : Nat) (w : World)
    (hg : g < w.heap.size) (i1 : 0 ≤ a) (i2 : a < (n : Int)) (c0 : w.cell? ⟨g, o + a.toNat * 2, none⟩ = some (.int .i64 p1)) (c1 : w.cell? ⟨g, o + a.toNat * 2 + 1, none⟩ = some (.int .i64 p2))
    (j1 : 0 ≤ b) (j2 : b < (n : Int)) (d0 : w.cell? ⟨g, o + b.toNat * 2, none⟩ = some (.int .i64 q1)) (d1 : w.cell? ⟨g, o + b.toNat * 2 + 1, none⟩ = some (.int .i64 q2)) :
    Calls Tryz.prog 24 #[.agg #[.int .i64 a, .int .i64 b, .int .i64 n1, .int .i64 n2, .int .i64 x1, .int .i64 x2, .int .i64 y1, .int .i64 y2, .int .i64 e, .int .i64 f], .slice (some ⟨g, o, none⟩) n c, .int .i64 a] w (TOut (pairR p1 p2 q1 q2 n1 n2 e).1 w) := by
  have k1 := fun w => pair_any p1 p2 q1 q2 n1 n2 e w
  generalize hP : pairR p1 p2 q1 q2 n1 n2 e = P at *
  obtain ⟨⟨r1, r2, r3⟩, s1, s2, s3⟩ := P
  unfold POut2 at k1
  simp only at k1 ⊢
  have K1 := Lib.hid k1
  clear k1 hP
  have hb0 : (b != -1) = true := by rw [bne_iff_ne]; omega
  have hb1 : ¬ b = -1 := by omega
  go_enter Tryz.func24, Tryz.ntmps24; (try simp only [List.append_eq, List.cons_append, List.nil_append])
  go_wp2_with fail
  (refine pin_wp (N := _) (Nat.le_refl _) (fun w101 hb_w101 hz_w101 => ?_); (try simp at hz_w101); (with_reducible apply cel10 (b := w.heap.size) hb_w101); (focus ((try simp) <;> omega)); (focus omega); (iterate 10 (focus (go_simp; try exact rfl))); (focus (intro o; go_simp)); intro c_w101_0_0 c_w101_0_1 c_w101_0_2 c_w101_0_3 c_w101_0_4 c_w101_0_5 c_w101_0_6 c_w101_0_7 c_w101_0_8 c_w101_0_9 fz_w101_0 hl_w101_0; (with_reducible apply cel6 (b := w.heap.size + 1) hb_w101); (focus ((try simp) <;> omega)); (focus omega); (iterate 6 (focus (go_simp; try exact rfl))); (focus (intro o; go_simp)); intro c_w101_1_0 c_w101_1_1 c_w101_1_2 c_w101_1_3 c_w101_1_4 c_w101_1_5 fz_w101_1 hl_w101_1); refine wp_q (fun Q_ HQ_ => ?_); refine wp_region_floatQ w101.heap.size 21 [21] (Nat.le_refl _) (fun _ => True) trivial Cl.tt (by kernel_rfl) (by kernel_rfl) ?_
  have HB101 := Lib.hid (show Below w.heap.size w w101 by ((with_reducible (repeat (first | exact bR _ _ | refine bS ?_ ?_ _ | refine bA ?_ ?_ _ | refine bD ?_ | refine bT ?_ (by assumption) ?_ | refine bO (by assumption) ?_ ?_))) <;> (first | omega | (simp <;> omega))))
  have hz101 : w.heap.size + 1 + 1 ≤ w101.heap.size := by omega
  clear hb_w101
  skip
  have c0_w101 := (HB101.out.cell (p := ⟨g, o + a.toNat * 2, none⟩) hg).trans c0
  have c1_w101 := (HB101.out.cell (p := ⟨g, o + a.toNat * 2 + 1, none⟩) hg).trans c1
  have d0_w101 := (HB101.out.cell (p := ⟨g, o + b.toNat * 2, none⟩) hg).trans d0
  have d1_w101 := (HB101.out.cell (p := ⟨g, o + b.toNat * 2 + 1, none⟩) hg).trans d1
  have hg_w101 : g < w101.heap.size := by have := HB101.out.size; omega
  refine wpQI_start [0, 1, 2, 3, 4, 5, 6, 7, 8, 9, 10, 11, 12, 13] ?_; (iterate 14 (first | (apply wpQI_step (by with_reducible (refine zA ?_; (repeat (first | exact zB | refine zC ?_)))) (by kernel_rfl) (by exact rfl); (focus (intro W' hS; have hcS := hS.cells.1; have hfS := hS.cells.2; go_simp; (first | done | exact rfl | exact bB _ | (go_simp; first | done | exact rfl | exact bB _)))); intro K hK; go_simp; (try go_bits); refine hK _ ?_; clear hK K))); refine wpQI_nil ?_
  apply wpQ_call (i := 14) (by with_reducible (refine zA ?_; (repeat (first | exact zB | refine zC ?_)))) (by kernel_rfl) (by exact rfl); intro W hF hS; have hcS := hS.1.cells.1; have hfS := hS.1.cells.2; go_simp; (go_at_call 53; refine (K1.out _).mono ?_; rintro e w102 ⟨hb_w102, u102, v102, rfl, hu102, hv102⟩; refine XPost.mk _ (fun W => RAt W u102 (r1) (r2) (r3) ∧ RAt W v102 (s1) (s2) (s3)) hb_w102 (⟨hu102, hv102⟩) (Cl.and (RAt.cl _ _ _ _) (RAt.cl _ _ _ _)) ?_); clear hb_w102 hcS hfS hS hF
  intro K hK; go_simp; (try go_bits); refine hK _ ?_; clear hK K
  obtain ⟨s102ux, A102ux, n102ux, c102ux, s102uy, A102uy, n102uy, c102uy, s102ud, A102ud, n102ud, c102ud, rfl⟩ := RAt.val hu102
  clear hu102
  obtain ⟨s102x, A102x, n102x, c102x, s102y, A102y, n102y, c102y, s102d, A102d, n102d, c102d, rfl⟩ := RAt.val hv102
  clear hv102
  refine wpQI_start [15, 16, 17] ?_; (iterate 3 (first | (apply wpQI_step (by with_reducible (refine zA ?_; (repeat (first | exact zB | refine zC ?_)))) (by kernel_rfl) (by exact rfl); (focus (intro W' hS; have hcS := hS.cells.1; have hfS := hS.cells.2; go_simp; (first | done | exact rfl | exact bB _ | (go_simp; first | done | exact rfl | exact bB _)))); intro K hK; go_simp; (try go_bits); refine hK _ ?_; clear hK K))); refine wpQI_nil ?_
  apply wpQ_fresh (i := 19) LInv.std (by with_reducible (refine zA ?_; (repeat (first | exact zB | refine zC ?_)))) (by kernel_rfl) (fun g => Value.pointer (some ⟨g, 0, none⟩)) (by exact rfl); (focus (intro W; go_simp; first | done | exact rfl | exact ⟨rfl, rfl⟩))
  intro g_r2_19 hN_r2_19 hG_r2_19 K hK
  go_simp; refine hK _ ?_; clear hK K
  apply wpQ_fresh (i := 18) LInv.std (by with_reducible (refine zA ?_; (repeat (first | exact zB | refine zC ?_)))) (by kernel_rfl) (fun g => Value.pointer (some ⟨g, 0, none⟩)) (by exact rfl); (focus (intro W; go_simp; first | done | exact rfl | exact ⟨rfl, rfl⟩))
  intro g_r2_18 hN_r2_18 hG_r2_18 K hK
  go_simp; refine hK _ ?_; clear hK K
  have hne_r2_19_r2_18 : g_r2_19 ≠ g_r2_18 := hG_r2_18 _ (List.mem_cons_self ..)
  have hne_r2_18_r2_19 : g_r2_18 ≠ g_r2_19 := Ne.symm hne_r2_19_r2_18
  have hne : w.heap.size ≠ g_r2_19 := by have := hN_r2_19; omega
  have hne := Ne.symm hne
  have hne : w.heap.size ≠ g_r2_18 := by have := hN_r2_18; omega
  have hne := Ne.symm hne
  have hne : w.heap.size + 1 ≠ g_r2_19 := by have := hN_r2_19; omega
  have hne := Ne.symm hne
  have hne : w.heap.size + 1 ≠ g_r2_18 := by have := hN_r2_18; omega
  have hne := Ne.symm hne
  apply wpQ_wild (i := 20) rfl (by kernel_rfl) (by kernel_rfl); intro W hF hS; have hcS := hS.1.cells.1; have hfS := hS.1.cells.2; have hb0 := (hS.2 _ (List.mem_cons_self ..)).2; simp only at hb0; have fz : (∀ o, W.frozen? ⟨g_r2_18, o, none⟩ = false) := (fun o => frozen_of_row W g_r2_18 o _ _ hb0); have cc0 := cell_of_row W g_r2_18 0 _ _ _ hb0; simp only [List.getElem?_toArray, List.getElem?_cons_zero] at cc0; have cc1 := cell_of_row W g_r2_18 1 _ _ _ hb0; simp only [List.getElem?_toArray, List.getElem?_cons_zero, List.getElem?_cons_succ] at cc1; have cc2 := cell_of_row W g_r2_18 2 _ _ _ hb0; simp only [List.getElem?_toArray, List.getElem?_cons_zero, List.getElem?_cons_succ] at cc2; have cc3 := cell_of_row W g_r2_18 3 _ _ _ hb0; simp only [List.getElem?_toArray, List.getElem?_cons_zero, List.getElem?_cons_succ] at cc3; have cc4 := cell_of_row W g_r2_18 4 _ _ _ hb0; simp only [List.getElem?_toArray, List.getElem?_cons_zero, List.getElem?_cons_succ] at cc4; have cc5 := cell_of_row W g_r2_18 5 _ _ _ hb0; simp only [List.getElem?_toArray, List.getElem?_cons_zero, List.getElem?_cons_succ] at cc5; go_simp
  have hP := ((((((hS.put hG_r2_18 0 (.bool s102ux)).put hG_r2_18 1 (.slice A102ux n102ux c102ux)).put hG_r2_18 2 (.bool s102uy)).put hG_r2_18 3 (.slice A102uy n102uy c102uy)).put hG_r2_18 4 (.bool s102ud)).put hG_r2_18 5 (.slice A102ud n102ud c102ud))
  simp only [List.setIfInBounds_toArray, List.set_cons_zero, List.set_cons_succ] at hP
  refine WPost.mk _ (fun W => RAt W (.agg #[.bool s102ux, .slice A102ux n102ux c102ux, .bool s102uy, .slice A102uy n102uy c102uy, .bool s102ud, .slice A102ud n102ud c102ud]) (r1) (r2) (r3) ∧ RAt W (.agg #[.bool s102x, .slice A102x n102x c102x, .bool s102y, .slice A102y n102y c102y, .bool s102d, .slice A102d n102d c102d]) (s1) (s2) (s3)) _ ⟨(by ((repeat (first | (with_reducible exact hF.1) | (with_reducible apply RAt.st1))) <;> (first | (with_reducible assumption) | (intro _ e; cases e; done) | (go_simp; first | done | exact rfl)))), (by ((repeat (first | (with_reducible exact hF.2) | (with_reducible apply RAt.st1))) <;> (first | (with_reducible assumption) | (intro _ e; cases e; done) | (go_simp; first | done | exact rfl))))⟩ (Cl.and (RAt.cl _ _ _ _) (RAt.cl _ _ _ _)) hP ?_
  clear hP fz hb0 cc0 cc1 cc2 cc3 cc4 cc5 hcS hfS hS hF
  intro K hK; go_simp; refine hK _ ?_; clear hK K
  refine wpQ_done (by kernel_rfl) ?_
  intro w103 hF_w103 hSG
  have hz_w103 := hSG.1.1
  have hb_w103 := hSG.1.2
  have hB_r2_18 := (hSG.2 _ (List.mem_cons_self ..)).2; simp only at hB_r2_18; have hl_r2_18 := (hSG.size (List.mem_cons_self ..)); simp only at hl_r2_18
  have c_w103_r2_18_0 := cell_of_row w103 g_r2_18 0 _ _ _ hB_r2_18; simp only [List.getElem?_toArray, List.getElem?_cons_zero] at c_w103_r2_18_0
  have c_w103_r2_18_1 := cell_of_row w103 g_r2_18 1 _ _ _ hB_r2_18; simp only [List.getElem?_toArray, List.getElem?_cons_zero, List.getElem?_cons_succ] at c_w103_r2_18_1
  have c_w103_r2_18_2 := cell_of_row w103 g_r2_18 2 _ _ _ hB_r2_18; simp only [List.getElem?_toArray, List.getElem?_cons_zero, List.getElem?_cons_succ] at c_w103_r2_18_2
  have c_w103_r2_18_3 := cell_of_row w103 g_r2_18 3 _ _ _ hB_r2_18; simp only [List.getElem?_toArray, List.getElem?_cons_zero, List.getElem?_cons_succ] at c_w103_r2_18_3
  have c_w103_r2_18_4 := cell_of_row w103 g_r2_18 4 _ _ _ hB_r2_18; simp only [List.getElem?_toArray, List.getElem?_cons_zero, List.getElem?_cons_succ] at c_w103_r2_18_4
  have c_w103_r2_18_5 := cell_of_row w103 g_r2_18 5 _ _ _ hB_r2_18; simp only [List.getElem?_toArray, List.getElem?_cons_zero, List.getElem?_cons_succ] at c_w103_r2_18_5
  have fz_w103_r2_18 : (∀ o, w103.frozen? ⟨g_r2_18, o, none⟩ = false) := (fun o => frozen_of_row w103 g_r2_18 o _ _ hB_r2_18); have HH_r2_18 := Lib.hid hB_r2_18; clear hB_r2_18
  have hB_r2_19 := (hSG.2 _ (List.mem_cons_of_mem _ (List.mem_cons_self ..))).2; simp only at hB_r2_19; have hl_r2_19 := (hSG.size (List.mem_cons_of_mem _ (List.mem_cons_self ..))); simp only at hl_r2_19
  have c_w103_r2_19_0 := cell_of_row w103 g_r2_19 0 _ _ _ hB_r2_19; simp only [List.getElem?_toArray, List.getElem?_cons_zero] at c_w103_r2_19_0
  have c_w103_r2_19_1 := cell_of_row w103 g_r2_19 1 _ _ _ hB_r2_19; simp only [List.getElem?_toArray, List.getElem?_cons_zero, List.getElem?_cons_succ] at c_w103_r2_19_1
  have c_w103_r2_19_2 := cell_of_row w103 g_r2_19 2 _ _ _ hB_r2_19; simp only [List.getElem?_toArray, List.getElem?_cons_zero, List.getElem?_cons_succ] at c_w103_r2_19_2
  have c_w103_r2_19_3 := cell_of_row w103 g_r2_19 3 _ _ _ hB_r2_19; simp only [List.getElem?_toArray, List.getElem?_cons_zero, List.getElem?_cons_succ] at c_w103_r2_19_3
  have c_w103_r2_19_4 := cell_of_row w103 g_r2_19 4 _ _ _ hB_r2_19; simp only [List.getElem?_toArray, List.getElem?_cons_zero, List.getElem?_cons_succ] at c_w103_r2_19_4
  have c_w103_r2_19_5 := cell_of_row w103 g_r2_19 5 _ _ _ hB_r2_19; simp only [List.getElem?_toArray, List.getElem?_cons_zero, List.getElem?_cons_succ] at c_w103_r2_19_5
  have fz_w103_r2_19 : (∀ o, w103.frozen? ⟨g_r2_19, o, none⟩ = false) := (fun o => frozen_of_row w103 g_r2_19 o _ _ hB_r2_19); have HH_r2_19 := Lib.hid hB_r2_19; clear hB_r2_19
  clear hSG
  (with_reducible apply cel10 (b := w.heap.size) hb_w103); (focus ((try simp) <;> omega)); (focus omega); (iterate 10 (focus (go_simp; try exact rfl))); (focus (intro o; go_simp)); intro c_w103_0_0 c_w103_0_1 c_w103_0_2 c_w103_0_3 c_w103_0_4 c_w103_0_5 c_w103_0_6 c_w103_0_7 c_w103_0_8 c_w103_0_9 fz_w103_0 hl_w103_0; (with_reducible apply cel6 (b := w.heap.size + 1) hb_w103); (focus ((try simp) <;> omega)); (focus omega); (iterate 6 (focus (go_simp; try exact rfl))); (focus (intro o; go_simp)); intro c_w103_1_0 c_w103_1_1 c_w103_1_2 c_w103_1_3 c_w103_1_4 c_w103_1_5 fz_w103_1 hl_w103_1
  (try simp only [List.filterMap_cons, List.filterMap_nil, List.getElem?_cons_succ, List.getElem?_cons_zero])
  have H102u := Lib.hid (show RAt w103 (.agg #[.bool s102ux, .slice A102ux n102ux c102ux, .bool s102uy, .slice A102uy n102uy c102uy, .bool s102ud, .slice A102ud n102ud c102ud]) (r1) (r2) (r3) from hF_w103.1)
  have H102 := Lib.hid (show RAt w103 (.agg #[.bool s102x, .slice A102x n102x c102x, .bool s102y, .slice A102y n102y c102y, .bool s102d, .slice A102d n102d c102d]) (s1) (s2) (s3) from hF_w103.2)
  have HB103 := Lib.hid (HB101.out.trans (hb_w103.mono (by have := HB101.out.size; omega)))
  have hz103 : w.heap.size + 1 + 1 ≤ w103.heap.size := by omega
  have hn_r2_19 : w.heap.size + 1 + 1 ≤ g_r2_19 := by have := hN_r2_19; omega
  have hn_r2_18 : w.heap.size + 1 + 1 ≤ g_r2_18 := by have := hN_r2_18; omega
  clear hF_w103 hb_w103 HH_r2_19 hG_r2_19 hN_r2_19 HH_r2_18 hG_r2_18 hN_r2_18
  clear c_w101_0_0 c_w101_0_1 c_w101_0_2 c_w101_0_3 c_w101_0_4 c_w101_0_5 c_w101_0_6 c_w101_0_7 c_w101_0_8 c_w101_0_9 fz_w101_0 hl_w101_0 c_w101_1_0 c_w101_1_1 c_w101_1_2 c_w101_1_3 c_w101_1_4 c_w101_1_5 fz_w101_1 hl_w101_1
  go_wp2_with fail
  refine HQ_.out _ _ _ ?_
  clear HQ_ Q_
  go_wp2_with fail
  refine bodyPost_ret (v := .agg #[.bool s102ux, .slice A102ux n102ux c102ux, .bool s102uy, .slice A102uy n102uy c102uy, .bool s102ud, .slice A102ud n102ud c102ud]) (by simp only [results, Tryz.results24]; go_simp) rfl ⟨?_, ?_⟩
  · have hB := HB103.out; ((with_reducible (repeat (first | exact bR _ _ | refine bS ?_ ?_ _ | refine bA ?_ ?_ _ | refine bD ?_ | refine bT ?_ (by assumption) ?_ | refine bO (by assumption) ?_ ?_))) <;> (first | omega | (simp <;> omega)))
  · exact ⟨_, rfl, (by ((repeat (first | (with_reducible exact H102u.out) | (with_reducible refine RAt.al ?_ _) | (with_reducible apply RAt.st1))) <;> (first | (with_reducible assumption) | (intro _ e; cases e; done) | (go_simp; first | done | exact rfl))))⟩
set_option maxRecDepth 100000 in
set_option maxHeartbeats 20000000 in
theorem alone_b (a b n1 n2 x1 x2 y1 y2 e f p1 p2 q1 q2 : Int) (g o n c : Nat) (w : World)
    (hg : g < w.heap.size) (i1 : 0 ≤ a) (i2 : a < (n : Int)) (c0 : w.cell? ⟨g, o + a.toNat * 2, none⟩ = some (.int .i64 p1)) (c1 : w.cell? ⟨g, o + a.toNat * 2 + 1, none⟩ = some (.int .i64 p2))
    (j1 : 0 ≤ b) (j2 : b < (n : Int)) (d0 : w.cell? ⟨g, o + b.toNat * 2, none⟩ = some (.int .i64 q1)) (d1 : w.cell? ⟨g, o + b.toNat * 2 + 1, none⟩ = some (.int .i64 q2)) (hab : ¬ b = a) :
    Calls Tryz.prog 24 #[.agg #[.int .i64 a, .int .i64 b, .int .i64 n1, .int .i64 n2, .int .i64 x1, .int .i64 x2, .int .i64 y1, .int .i64 y2, .int .i64 e, .int .i64 f], .slice (some ⟨g, o, none⟩) n c, .int .i64 b] w (TOut (pairR p1 p2 q1 q2 n1 n2 e).2 w) := by
  have k1 := fun w => pair_any p1 p2 q1 q2 n1 n2 e w
  generalize hP : pairR p1 p2 q1 q2 n1 n2 e = P at *
  obtain ⟨⟨r1, r2, r3⟩, s1, s2, s3⟩ := P
  unfold POut2 at k1
  simp only at k1 ⊢
  have K1 := Lib.hid k1
  clear k1 hP
  have hb0 : (b != -1) = true := by rw [bne_iff_ne]; omega
  have hb1 : ¬ b = -1 := by omega
  have hab0 : (b == a) = false := by rw [beq_eq_false_iff_ne]; exact hab
  go_enter Tryz.func24, Tryz.ntmps24; (try simp only [List.append_eq, List.cons_append, List.nil_append])
  go_wp2_with fail
  (refine pin_wp (N := _) (Nat.le_refl _) (fun w101 hb_w101 hz_w101 => ?_); (try simp at hz_w101); (with_reducible apply cel10 (b := w.heap.size) hb_w101); (focus ((try simp) <;> omega)); (focus omega); (iterate 10 (focus (go_simp; try exact rfl))); (focus (intro o; go_simp)); intro c_w101_0_0 c_w101_0_1 c_w101_0_2 c_w101_0_3 c_w101_0_4 c_w101_0_5 c_w101_0_6 c_w101_0_7 c_w101_0_8 c_w101_0_9 fz_w101_0 hl_w101_0; (with_reducible apply cel6 (b := w.heap.size + 1) hb_w101); (focus ((try simp) <;> omega)); (focus omega); (iterate 6 (focus (go_simp; try exact rfl))); (focus (intro o; go_simp)); intro c_w101_1_0 c_w101_1_1 c_w101_1_2 c_w101_1_3 c_w101_1_4 c_w101_1_5 fz_w101_1 hl_w101_1); refine wp_q (fun Q_ HQ_ => ?_); refine wp_region_floatQ w101.heap.size 21 [21] (Nat.le_refl _) (fun _ => True) trivial Cl.tt (by kernel_rfl) (by kernel_rfl) ?_
  have HB101 := Lib.hid (show Below w.heap.size w w101 by ((with_reducible (repeat (first | exact bR _ _ | refine bS ?_ ?_ _ | refine bA ?_ ?_ _ | refine bD ?_ | refine bT ?_ (by assumption) ?_ | refine bO (by assumption) ?_ ?_))) <;> (first | omega | (simp <;> omega))))
  have hz101 : w.heap.size + 1 + 1 ≤ w101.heap.size := by omega
  clear hb_w101
  skip
  have c0_w101 := (HB101.out.cell (p := ⟨g, o + a.toNat * 2, none⟩) hg).trans c0
  have c1_w101 := (HB101.out.cell (p := ⟨g, o + a.toNat * 2 + 1, none⟩) hg).trans c1
  have d0_w101 := (HB101.out.cell (p := ⟨g, o + b.toNat * 2, none⟩) hg).trans d0
  have d1_w101 := (HB101.out.cell (p := ⟨g, o + b.toNat * 2 + 1, none⟩) hg).trans d1
  have hg_w101 : g < w101.heap.size := by have := HB101.out.size; omega
  refine wpQI_start [0, 1, 2, 3, 4, 5, 6, 7, 8, 9, 10, 11, 12, 13] ?_; (iterate 14 (first | (apply wpQI_step (by with_reducible (refine zA ?_; (repeat (first | exact zB | refine zC ?_)))) (by kernel_rfl) (by exact rfl); (focus (intro W' hS; have hcS := hS.cells.1; have hfS := hS.cells.2; go_simp; (first | done | exact rfl | exact bB _ | (go_simp; first | done | exact rfl | exact bB _)))); intro K hK; go_simp; (try go_bits); refine hK _ ?_; clear hK K))); refine wpQI_nil ?_
  apply wpQ_call (i := 14) (by with_reducible (refine zA ?_; (repeat (first | exact zB | refine zC ?_)))) (by kernel_rfl) (by exact rfl); intro W hF hS; have hcS := hS.1.cells.1; have hfS := hS.1.cells.2; go_simp; (go_at_call 53; refine (K1.out _).mono ?_; rintro e w102 ⟨hb_w102, u102, v102, rfl, hu102, hv102⟩; refine XPost.mk _ (fun W => RAt W u102 (r1) (r2) (r3) ∧ RAt W v102 (s1) (s2) (s3)) hb_w102 (⟨hu102, hv102⟩) (Cl.and (RAt.cl _ _ _ _) (RAt.cl _ _ _ _)) ?_); clear hb_w102 hcS hfS hS hF
  intro K hK; go_simp; (try go_bits); refine hK _ ?_; clear hK K
  obtain ⟨s102ux, A102ux, n102ux, c102ux, s102uy, A102uy, n102uy, c102uy, s102ud, A102ud, n102ud, c102ud, rfl⟩ := RAt.val hu102
  clear hu102
  obtain ⟨s102x, A102x, n102x, c102x, s102y, A102y, n102y, c102y, s102d, A102d, n102d, c102d, rfl⟩ := RAt.val hv102
  clear hv102
  refine wpQI_start [15, 16, 17] ?_; (iterate 3 (first | (apply wpQI_step (by with_reducible (refine zA ?_; (repeat (first | exact zB | refine zC ?_)))) (by kernel_rfl) (by exact rfl); (focus (intro W' hS; have hcS := hS.cells.1; have hfS := hS.cells.2; go_simp; (first | done | exact rfl | exact bB _ | (go_simp; first | done | exact rfl | exact bB _)))); intro K hK; go_simp; (try go_bits); refine hK _ ?_; clear hK K))); refine wpQI_nil ?_
  apply wpQ_fresh (i := 19) LInv.std (by with_reducible (refine zA ?_; (repeat (first | exact zB | refine zC ?_)))) (by kernel_rfl) (fun g => Value.pointer (some ⟨g, 0, none⟩)) (by exact rfl); (focus (intro W; go_simp; first | done | exact rfl | exact ⟨rfl, rfl⟩))
  intro g_r5_19 hN_r5_19 hG_r5_19 K hK
  go_simp; refine hK _ ?_; clear hK K
  apply wpQ_fresh (i := 18) LInv.std (by with_reducible (refine zA ?_; (repeat (first | exact zB | refine zC ?_)))) (by kernel_rfl) (fun g => Value.pointer (some ⟨g, 0, none⟩)) (by exact rfl); (focus (intro W; go_simp; first | done | exact rfl | exact ⟨rfl, rfl⟩))
  intro g_r5_18 hN_r5_18 hG_r5_18 K hK
  go_simp; refine hK _ ?_; clear hK K
  have hne_r5_19_r5_18 : g_r5_19 ≠ g_r5_18 := hG_r5_18 _ (List.mem_cons_self ..)
  have hne_r5_18_r5_19 : g_r5_18 ≠ g_r5_19 := Ne.symm hne_r5_19_r5_18
  have hne : w.heap.size ≠ g_r5_19 := by have := hN_r5_19; omega
  have hne := Ne.symm hne
  have hne : w.heap.size ≠ g_r5_18 := by have := hN_r5_18; omega
  have hne := Ne.symm hne
  have hne : w.heap.size + 1 ≠ g_r5_19 := by have := hN_r5_19; omega
  have hne := Ne.symm hne
  have hne : w.heap.size + 1 ≠ g_r5_18 := by have := hN_r5_18; omega
  have hne := Ne.symm hne
  apply wpQ_wild (i := 20) rfl (by kernel_rfl) (by kernel_rfl); intro W hF hS; have hcS := hS.1.cells.1; have hfS := hS.1.cells.2; have hb0 := (hS.2 _ (List.mem_cons_self ..)).2; simp only at hb0; have fz : (∀ o, W.frozen? ⟨g_r5_18, o, none⟩ = false) := (fun o => frozen_of_row W g_r5_18 o _ _ hb0); have cc0 := cell_of_row W g_r5_18 0 _ _ _ hb0; simp only [List.getElem?_toArray, List.getElem?_cons_zero] at cc0; have cc1 := cell_of_row W g_r5_18 1 _ _ _ hb0; simp only [List.getElem?_toArray, List.getElem?_cons_zero, List.getElem?_cons_succ] at cc1; have cc2 := cell_of_row W g_r5_18 2 _ _ _ hb0; simp only [List.getElem?_toArray, List.getElem?_cons_zero, List.getElem?_cons_succ] at cc2; have cc3 := cell_of_row W g_r5_18 3 _ _ _ hb0; simp only [List.getElem?_toArray, List.getElem?_cons_zero, List.getElem?_cons_succ] at cc3; have cc4 := cell_of_row W g_r5_18 4 _ _ _ hb0; simp only [List.getElem?_toArray, List.getElem?_cons_zero, List.getElem?_cons_succ] at cc4; have cc5 := cell_of_row W g_r5_18 5 _ _ _ hb0; simp only [List.getElem?_toArray, List.getElem?_cons_zero, List.getElem?_cons_succ] at cc5; go_simp
  have hP := ((((((hS.put hG_r5_18 0 (.bool s102ux)).put hG_r5_18 1 (.slice A102ux n102ux c102ux)).put hG_r5_18 2 (.bool s102uy)).put hG_r5_18 3 (.slice A102uy n102uy c102uy)).put hG_r5_18 4 (.bool s102ud)).put hG_r5_18 5 (.slice A102ud n102ud c102ud))
  simp only [List.setIfInBounds_toArray, List.set_cons_zero, List.set_cons_succ] at hP
  refine WPost.mk _ (fun W => RAt W (.agg #[.bool s102ux, .slice A102ux n102ux c102ux, .bool s102uy, .slice A102uy n102uy c102uy, .bool s102ud, .slice A102ud n102ud c102ud]) (r1) (r2) (r3) ∧ RAt W (.agg #[.bool s102x, .slice A102x n102x c102x, .bool s102y, .slice A102y n102y c102y, .bool s102d, .slice A102d n102d c102d]) (s1) (s2) (s3)) _ ⟨(by ((repeat (first | (with_reducible exact hF.1) | (with_reducible apply RAt.st1))) <;> (first | (with_reducible assumption) | (intro _ e; cases e; done) | (go_simp; first | done | exact rfl)))), (by ((repeat (first | (with_reducible exact hF.2) | (with_reducible apply RAt.st1))) <;> (first | (with_reducible assumption) | (intro _ e; cases e; done) | (go_simp; first | done | exact rfl))))⟩ (Cl.and (RAt.cl _ _ _ _) (RAt.cl _ _ _ _)) hP ?_
  clear hP fz hb0 cc0 cc1 cc2 cc3 cc4 cc5 hcS hfS hS hF
  intro K hK; go_simp; refine hK _ ?_; clear hK K
  refine wpQ_done (by kernel_rfl) ?_
  intro w103 hF_w103 hSG
  have hz_w103 := hSG.1.1
  have hb_w103 := hSG.1.2
  have hB_r5_18 := (hSG.2 _ (List.mem_cons_self ..)).2; simp only at hB_r5_18; have hl_r5_18 := (hSG.size (List.mem_cons_self ..)); simp only at hl_r5_18
  have c_w103_r5_18_0 := cell_of_row w103 g_r5_18 0 _ _ _ hB_r5_18; simp only [List.getElem?_toArray, List.getElem?_cons_zero] at c_w103_r5_18_0
  have c_w103_r5_18_1 := cell_of_row w103 g_r5_18 1 _ _ _ hB_r5_18; simp only [List.getElem?_toArray, List.getElem?_cons_zero, List.getElem?_cons_succ] at c_w103_r5_18_1
  have c_w103_r5_18_2 := cell_of_row w103 g_r5_18 2 _ _ _ hB_r5_18; simp only [List.getElem?_toArray, List.getElem?_cons_zero, List.getElem?_cons_succ] at c_w103_r5_18_2
  have c_w103_r5_18_3 := cell_of_row w103 g_r5_18 3 _ _ _ hB_r5_18; simp only [List.getElem?_toArray, List.getElem?_cons_zero, List.getElem?_cons_succ] at c_w103_r5_18_3
  have c_w103_r5_18_4 := cell_of_row w103 g_r5_18 4 _ _ _ hB_r5_18; simp only [List.getElem?_toArray, List.getElem?_cons_zero, List.getElem?_cons_succ] at c_w103_r5_18_4
  have c_w103_r5_18_5 := cell_of_row w103 g_r5_18 5 _ _ _ hB_r5_18; simp only [List.getElem?_toArray, List.getElem?_cons_zero, List.getElem?_cons_succ] at c_w103_r5_18_5
  have fz_w103_r5_18 : (∀ o, w103.frozen? ⟨g_r5_18, o, none⟩ = false) := (fun o => frozen_of_row w103 g_r5_18 o _ _ hB_r5_18); have HH_r5_18 := Lib.hid hB_r5_18; clear hB_r5_18
  have hB_r5_19 := (hSG.2 _ (List.mem_cons_of_mem _ (List.mem_cons_self ..))).2; simp only at hB_r5_19; have hl_r5_19 := (hSG.size (List.mem_cons_of_mem _ (List.mem_cons_self ..))); simp only at hl_r5_19
  have c_w103_r5_19_0 := cell_of_row w103 g_r5_19 0 _ _ _ hB_r5_19; simp only [List.getElem?_toArray, List.getElem?_cons_zero] at c_w103_r5_19_0
  have c_w103_r5_19_1 := cell_of_row w103 g_r5_19 1 _ _ _ hB_r5_19; simp only [List.getElem?_toArray, List.getElem?_cons_zero, List.getElem?_cons_succ] at c_w103_r5_19_1
  have c_w103_r5_19_2 := cell_of_row w103 g_r5_19 2 _ _ _ hB_r5_19; simp only [List.getElem?_toArray, List.getElem?_cons_zero, List.getElem?_cons_succ] at c_w103_r5_19_2
  have c_w103_r5_19_3 := cell_of_row w103 g_r5_19 3 _ _ _ hB_r5_19; simp only [List.getElem?_toArray, List.getElem?_cons_zero, List.getElem?_cons_succ] at c_w103_r5_19_3
  have c_w103_r5_19_4 := cell_of_row w103 g_r5_19 4 _ _ _ hB_r5_19; simp only [List.getElem?_toArray, List.getElem?_cons_zero, List.getElem?_cons_succ] at c_w103_r5_19_4
  have c_w103_r5_19_5 := cell_of_row w103 g_r5_19 5 _ _ _ hB_r5_19; simp only [List.getElem?_toArray, List.getElem?_cons_zero, List.getElem?_cons_succ] at c_w103_r5_19_5
  have fz_w103_r5_19 : (∀ o, w103.frozen? ⟨g_r5_19, o, none⟩ = false) := (fun o => frozen_of_row w103 g_r5_19 o _ _ hB_r5_19); have HH_r5_19 := Lib.hid hB_r5_19; clear hB_r5_19
  clear hSG
  (with_reducible apply cel10 (b := w.heap.size) hb_w103); (focus ((try simp) <;> omega)); (focus omega); (iterate 10 (focus (go_simp; try exact rfl))); (focus (intro o; go_simp)); intro c_w103_0_0 c_w103_0_1 c_w103_0_2 c_w103_0_3 c_w103_0_4 c_w103_0_5 c_w103_0_6 c_w103_0_7 c_w103_0_8 c_w103_0_9 fz_w103_0 hl_w103_0; (with_reducible apply cel6 (b := w.heap.size + 1) hb_w103); (focus ((try simp) <;> omega)); (focus omega); (iterate 6 (focus (go_simp; try exact rfl))); (focus (intro o; go_simp)); intro c_w103_1_0 c_w103_1_1 c_w103_1_2 c_w103_1_3 c_w103_1_4 c_w103_1_5 fz_w103_1 hl_w103_1
  (try simp only [List.filterMap_cons, List.filterMap_nil, List.getElem?_cons_succ, List.getElem?_cons_zero])
  have H102u := Lib.hid (show RAt w103 (.agg #[.bool s102ux, .slice A102ux n102ux c102ux, .bool s102uy, .slice A102uy n102uy c102uy, .bool s102ud, .slice A102ud n102ud c102ud]) (r1) (r2) (r3) from hF_w103.1)
  have H102 := Lib.hid (show RAt w103 (.agg #[.bool s102x, .slice A102x n102x c102x, .bool s102y, .slice A102y n102y c102y, .bool s102d, .slice A102d n102d c102d]) (s1) (s2) (s3) from hF_w103.2)
  have HB103 := Lib.hid (HB101.out.trans (hb_w103.mono (by have := HB101.out.size; omega)))
  have hz103 : w.heap.size + 1 + 1 ≤ w103.heap.size := by omega
  have hn_r5_19 : w.heap.size + 1 + 1 ≤ g_r5_19 := by have := hN_r5_19; omega
  have hn_r5_18 : w.heap.size + 1 + 1 ≤ g_r5_18 := by have := hN_r5_18; omega
  clear hF_w103 hb_w103 HH_r5_19 hG_r5_19 hN_r5_19 HH_r5_18 hG_r5_18 hN_r5_18
  clear c_w101_0_0 c_w101_0_1 c_w101_0_2 c_w101_0_3 c_w101_0_4 c_w101_0_5 c_w101_0_6 c_w101_0_7 c_w101_0_8 c_w101_0_9 fz_w101_0 hl_w101_0 c_w101_1_0 c_w101_1_1 c_w101_1_2 c_w101_1_3 c_w101_1_4 c_w101_1_5 fz_w101_1 hl_w101_1
  go_wp2_with fail
  refine HQ_.out _ _ _ ?_
  clear HQ_ Q_
  go_wp2_with fail
  refine bodyPost_ret (v := .agg #[.bool s102x, .slice A102x n102x c102x, .bool s102y, .slice A102y n102y c102y, .bool s102d, .slice A102d n102d c102d]) (by simp only [results, Tryz.results24]; go_simp) rfl ⟨?_, ?_⟩
  · have hB := HB103.out; ((with_reducible (repeat (first | exact bR _ _ | refine bS ?_ ?_ _ | refine bA ?_ ?_ _ | refine bD ?_ | refine bT ?_ (by assumption) ?_ | refine bO (by assumption) ?_ ?_))) <;> (first | omega | (simp <;> omega)))
  · exact ⟨_, rfl, (by ((repeat (first | (with_reducible exact H102.out) | (with_reducible refine RAt.al ?_ _) | (with_reducible apply RAt.st1))) <;> (first | (with_reducible assumption) | (intro _ e; cases e; done) | (go_simp; first | done | exact rfl))))⟩
set_option maxRecDepth 100000 in
set_option maxHeartbeats 20000000 in
theorem alone_s (a n1 n2 x1 x2 y1 y2 e f p1 p2 : Int) (g o n c : Nat) (w : World)
    (hg : g < w.heap.size) (i1 : 0 ≤ a) (i2 : a < (n : Int)) (c0 : w.cell? ⟨g, o + a.toNat * 2, none⟩ = some (.int .i64 p1)) (c1 : w.cell? ⟨g, o + a.toNat * 2 + 1, none⟩ = some (.int .i64 p2)) (hy1 : -1048576 ≤ y1 ∧ y1 ≤ 1048576) (hy2 : -1048576 ≤ y2 ∧ y2 ≤ 1048576) :
    Calls Tryz.prog 24 #[.agg #[.int .i64 a, .int .i64 (-1), .int .i64 n1, .int .i64 n2, .int .i64 x1, .int .i64 x2, .int .i64 y1, .int .i64 y2, .int .i64 e, .int .i64 f], .slice (some ⟨g, o, none⟩) n c, .int .i64 a] w (TOut (kickS (statR p1 p2 x1 x2 n1 n2 e f) y1 y2) w) := by
  have k1 := fun w => static_any p1 p2 x1 x2 n1 n2 e f w
  obtain ⟨⟨lx, ly, ld⟩, _⟩ := stat_lens p1 p2 x1 x2 n1 n2 e f
  unfold TOut at k1
  generalize hP : statR p1 p2 x1 x2 n1 n2 e f = P at *
  obtain ⟨r1, r2, r3⟩ := P
  unfold kickS
  simp only at *
  have ly1 := len_wd (z := y1) (by omega) (by omega)
  have ly2 := len_wd (z := y2) (by omega) (by omega)
  have LX := Lib.hid (len_up lx (show 10 ≤ 600 by omega))
  have LY := Lib.hid (len_up ly (show 10 ≤ 600 by omega))
  have LD := Lib.hid (len_up ld (show 10 ≤ 600 by omega))
  have LK1 := Lib.hid (len_up ly1 (show 10 ≤ 600 by omega))
  have LK2 := Lib.hid (len_up ly2 (show 10 ≤ 600 by omega))
  have LM1 := Lib.hid (len_up (len_mul ld ly1) (show 10 + 10 ≤ 600 by omega))
  have LM2 := Lib.hid (len_up (len_mul ld ly2) (show 10 + 10 ≤ 600 by omega))
  have k2 := fun w => wof_any y1 w (by omega) (by omega)
  have k3 := fun u v w h1 h2 => wmul_any 600 u v r3 y1 w h1 h2 (by omega)
  have k4 := fun u v w h1 h2 => wadd_any 600 u v r1 (r3 * y1) w h1 h2 (by omega)
  have k5 := fun w => wof_any y2 w (by omega) (by omega)
  have k6 := fun u v w h1 h2 => wmul_any 600 u v r3 y2 w h1 h2 (by omega)
  have k7 := fun u v w h1 h2 => wadd_any 600 u v r2 (r3 * y2) w h1 h2 (by omega)
  generalize r3 * y1 = M1 at *
  generalize r3 * y2 = M2 at *
  generalize r1 + M1 = S1 at *
  generalize r2 + M2 = S2 at *
  have K1 := Lib.hid k1
  have K2 := Lib.hid k2
  have K3 := Lib.hid k3
  have K4 := Lib.hid k4
  have K5 := Lib.hid k5
  have K6 := Lib.hid k6
  have K7 := Lib.hid k7
  clear k1 k2 k3 k4 k5 k6 k7 hP lx ly ld ly1 ly2 hy1 hy2
  go_enter Tryz.func24, Tryz.ntmps24; (try simp only [List.append_eq, List.cons_append, List.nil_append])
  go_wp2_with fail
  (refine pin_wp (N := _) (Nat.le_refl _) (fun w101 hb_w101 hz_w101 => ?_); (try simp at hz_w101); (with_reducible apply cel10 (b := w.heap.size) hb_w101); (focus ((try simp) <;> omega)); (focus omega); (iterate 10 (focus (go_simp; try exact rfl))); (focus (intro o; go_simp)); intro c_w101_0_0 c_w101_0_1 c_w101_0_2 c_w101_0_3 c_w101_0_4 c_w101_0_5 c_w101_0_6 c_w101_0_7 c_w101_0_8 c_w101_0_9 fz_w101_0 hl_w101_0; (with_reducible apply cel6 (b := w.heap.size + 1) hb_w101); (focus ((try simp) <;> omega)); (focus omega); (iterate 6 (focus (go_simp; try exact rfl))); (focus (intro o; go_simp)); intro c_w101_1_0 c_w101_1_1 c_w101_1_2 c_w101_1_3 c_w101_1_4 c_w101_1_5 fz_w101_1 hl_w101_1); refine wp_q (fun Q_ HQ_ => ?_); refine wp_region_floatQ w101.heap.size 15 [15] (Nat.le_refl _) (fun _ => True) trivial Cl.tt (by kernel_rfl) (by kernel_rfl) ?_
  have HB101 := Lib.hid (show Below w.heap.size w w101 by ((with_reducible (repeat (first | exact bR _ _ | refine bS ?_ ?_ _ | refine bA ?_ ?_ _ | refine bD ?_ | refine bT ?_ (by assumption) ?_ | refine bO (by assumption) ?_ ?_))) <;> (first | omega | (simp <;> omega))))
  have hz101 : w.heap.size + 1 + 1 ≤ w101.heap.size := by omega
  clear hb_w101
  skip
  have c0_w101 := (HB101.out.cell (p := ⟨g, o + a.toNat * 2, none⟩) hg).trans c0
  have c1_w101 := (HB101.out.cell (p := ⟨g, o + a.toNat * 2 + 1, none⟩) hg).trans c1
  have hg_w101 : g < w101.heap.size := by have := HB101.out.size; omega
  refine wpQI_start [0, 1, 2, 3, 4, 5, 6, 7, 8, 9, 10, 11, 12] ?_; (iterate 13 (first | (apply wpQI_step (by with_reducible (refine zA ?_; (repeat (first | exact zB | refine zC ?_)))) (by kernel_rfl) (by exact rfl); (focus (intro W' hS; have hcS := hS.cells.1; have hfS := hS.cells.2; go_simp; (first | done | exact rfl | exact bB _ | (go_simp; first | done | exact rfl | exact bB _)))); intro K hK; go_simp; (try go_bits); refine hK _ ?_; clear hK K))); refine wpQI_nil ?_
  apply wpQ_call (i := 13) (by with_reducible (refine zA ?_; (repeat (first | exact zB | refine zC ?_)))) (by kernel_rfl) (by exact rfl); intro W hF hS; have hcS := hS.1.cells.1; have hfS := hS.1.cells.2; go_simp; (go_at_call 54; refine (K1.out _).mono ?_; rintro e w102 ⟨hb_w102, v102, rfl, hv102⟩; refine XPost.mk _ (fun W => RAt W v102 (r1) (r2) (r3)) hb_w102 (hv102) (RAt.cl _ _ _ _) ?_); clear hb_w102 hcS hfS hS hF
  intro K hK; go_simp; (try go_bits); refine hK _ ?_; clear hK K
  obtain ⟨s102x, A102x, n102x, c102x, s102y, A102y, n102y, c102y, s102d, A102d, n102d, c102d, rfl⟩ := RAt.val hv102
  clear hv102
  apply wpQ_fresh (i := 14) LInv.std (by with_reducible (refine zA ?_; (repeat (first | exact zB | refine zC ?_)))) (by kernel_rfl) (fun g => Value.pointer (some ⟨g, 0, none⟩)) (by exact rfl); (focus (intro W; go_simp; first | done | exact rfl | exact ⟨rfl, rfl⟩))
  intro g_r8_14 hN_r8_14 hG_r8_14 K hK
  go_simp; refine hK _ ?_; clear hK K
  have hne : w.heap.size ≠ g_r8_14 := by have := hN_r8_14; omega
  have hne := Ne.symm hne
  have hne : w.heap.size + 1 ≠ g_r8_14 := by have := hN_r8_14; omega
  have hne := Ne.symm hne
  refine wpQ_done (by kernel_rfl) ?_
  intro w103 hF_w103 hSG
  have hz_w103 := hSG.1.1
  have hb_w103 := hSG.1.2
  have hB_r8_14 := (hSG.2 _ (List.mem_cons_self ..)).2; simp only at hB_r8_14; have hl_r8_14 := (hSG.size (List.mem_cons_self ..)); simp only at hl_r8_14
  have c_w103_r8_14_0 := cell_of_row w103 g_r8_14 0 _ _ _ hB_r8_14; simp only [List.getElem?_toArray, List.getElem?_cons_zero] at c_w103_r8_14_0
  have c_w103_r8_14_1 := cell_of_row w103 g_r8_14 1 _ _ _ hB_r8_14; simp only [List.getElem?_toArray, List.getElem?_cons_zero, List.getElem?_cons_succ] at c_w103_r8_14_1
  have c_w103_r8_14_2 := cell_of_row w103 g_r8_14 2 _ _ _ hB_r8_14; simp only [List.getElem?_toArray, List.getElem?_cons_zero, List.getElem?_cons_succ] at c_w103_r8_14_2
  have c_w103_r8_14_3 := cell_of_row w103 g_r8_14 3 _ _ _ hB_r8_14; simp only [List.getElem?_toArray, List.getElem?_cons_zero, List.getElem?_cons_succ] at c_w103_r8_14_3
  have c_w103_r8_14_4 := cell_of_row w103 g_r8_14 4 _ _ _ hB_r8_14; simp only [List.getElem?_toArray, List.getElem?_cons_zero, List.getElem?_cons_succ] at c_w103_r8_14_4
  have c_w103_r8_14_5 := cell_of_row w103 g_r8_14 5 _ _ _ hB_r8_14; simp only [List.getElem?_toArray, List.getElem?_cons_zero, List.getElem?_cons_succ] at c_w103_r8_14_5
  have fz_w103_r8_14 : (∀ o, w103.frozen? ⟨g_r8_14, o, none⟩ = false) := (fun o => frozen_of_row w103 g_r8_14 o _ _ hB_r8_14); have HH_r8_14 := Lib.hid hB_r8_14; clear hB_r8_14
  clear hSG
  (with_reducible apply cel10 (b := w.heap.size) hb_w103); (focus ((try simp) <;> omega)); (focus omega); (iterate 10 (focus (go_simp; try exact rfl))); (focus (intro o; go_simp)); intro c_w103_0_0 c_w103_0_1 c_w103_0_2 c_w103_0_3 c_w103_0_4 c_w103_0_5 c_w103_0_6 c_w103_0_7 c_w103_0_8 c_w103_0_9 fz_w103_0 hl_w103_0; (with_reducible apply cel6 (b := w.heap.size + 1) hb_w103); (focus ((try simp) <;> omega)); (focus omega); (iterate 6 (focus (go_simp; try exact rfl))); (focus (intro o; go_simp)); intro c_w103_1_0 c_w103_1_1 c_w103_1_2 c_w103_1_3 c_w103_1_4 c_w103_1_5 fz_w103_1 hl_w103_1
  (try simp only [List.filterMap_cons, List.filterMap_nil, List.getElem?_cons_succ, List.getElem?_cons_zero])
  have H102 := Lib.hid (show RAt w103 (.agg #[.bool s102x, .slice A102x n102x c102x, .bool s102y, .slice A102y n102y c102y, .bool s102d, .slice A102d n102d c102d]) (r1) (r2) (r3) from hF_w103)
  have HB103 := Lib.hid (HB101.out.trans (hb_w103.mono (by have := HB101.out.size; omega)))
  have hz103 : w.heap.size + 1 + 1 ≤ w103.heap.size := by omega
  have hn_r8_14 : w.heap.size + 1 + 1 ≤ g_r8_14 := by have := hN_r8_14; omega
  clear hF_w103 hb_w103 HH_r8_14 hG_r8_14 hN_r8_14
  clear c_w101_0_0 c_w101_0_1 c_w101_0_2 c_w101_0_3 c_w101_0_4 c_w101_0_5 c_w101_0_6 c_w101_0_7 c_w101_0_8 c_w101_0_9 fz_w101_0 hl_w101_0 c_w101_1_0 c_w101_1_1 c_w101_1_2 c_w101_1_3 c_w101_1_4 c_w101_1_5 fz_w101_1 hl_w101_1
  go_wp2_with fail
  refine HQ_.out _ _ _ ?_
  clear HQ_ Q_
  go_wp2_with fail
  (refine pin_wp (N := _) (Nat.le_refl _) (fun w104 hb_w104 hz_w104 => ?_); (try simp at hz_w104); (with_reducible apply cel10 (b := w.heap.size) hb_w104); (focus ((try simp) <;> omega)); (focus omega); (iterate 10 (focus (go_simp; try exact rfl))); (focus (intro o; go_simp)); intro c_w104_0_0 c_w104_0_1 c_w104_0_2 c_w104_0_3 c_w104_0_4 c_w104_0_5 c_w104_0_6 c_w104_0_7 c_w104_0_8 c_w104_0_9 fz_w104_0 hl_w104_0; (with_reducible apply cel6 (b := w.heap.size + 1) hb_w104); (focus ((try simp) <;> omega)); (focus omega); (iterate 6 (focus (go_simp; try exact rfl))); (focus (intro o; go_simp)); intro c_w104_1_0 c_w104_1_1 c_w104_1_2 c_w104_1_3 c_w104_1_4 c_w104_1_5 fz_w104_1 hl_w104_1; (with_reducible apply cel6 (b := g_r8_14) hb_w104); (focus ((try simp) <;> omega)); (focus omega); (iterate 6 (focus (go_simp; try exact rfl))); (focus (intro o; go_simp)); intro c_w104_2_0 c_w104_2_1 c_w104_2_2 c_w104_2_3 c_w104_2_4 c_w104_2_5 fz_w104_2 hl_w104_2); refine wp_q (fun Q_ HQ_ => ?_); refine wp_region_floatQ w104.heap.size 11 [11] (Nat.le_refl _) (fun _ => True) trivial Cl.tt (by kernel_rfl) (by kernel_rfl) ?_
  replace H102 := Lib.hid (RAt.below (v := .agg #[.bool s102x, .slice A102x n102x c102x, .bool s102y, .slice A102y n102y c102y, .bool s102d, .slice A102d n102d c102d]) (x := r1) (y := r2) (d := r3) (by ((repeat (first | (with_reducible exact H102.out) | (with_reducible refine RAt.al ?_ _) | (with_reducible apply RAt.st1))) <;> (first | (with_reducible assumption) | (intro _ e; cases e; done) | (go_simp; first | done | exact rfl)))) hb_w104)
  have HB104 := Lib.hid (show Below w.heap.size w w104 by have hB := HB103.out; ((with_reducible (repeat (first | exact bR _ _ | refine bS ?_ ?_ _ | refine bA ?_ ?_ _ | refine bD ?_ | refine bT ?_ (by assumption) ?_ | refine bO (by assumption) ?_ ?_))) <;> (first | omega | (simp <;> omega))))
  have hz104 : w.heap.size + 1 + 1 ≤ w104.heap.size := by omega
  clear hb_w104
  clear c_w103_r8_14_0 c_w103_r8_14_1 c_w103_r8_14_2 c_w103_r8_14_3 c_w103_r8_14_4 c_w103_r8_14_5 fz_w103_r8_14 c_w103_0_0 c_w103_0_1 c_w103_0_2 c_w103_0_3 c_w103_0_4 c_w103_0_5 c_w103_0_6 c_w103_0_7 c_w103_0_8 c_w103_0_9 fz_w103_0 hl_w103_0 c_w103_1_0 c_w103_1_1 c_w103_1_2 c_w103_1_3 c_w103_1_4 c_w103_1_5 fz_w103_1 hl_w103_1
  refine wpQI_start [0, 1, 2, 3, 4, 5, 6] ?_; (iterate 7 (first | (apply wpQI_step (by with_reducible (refine zA ?_; (repeat (first | exact zB | refine zC ?_)))) (by kernel_rfl) (by exact rfl); (focus (intro W' hS; have hcS := hS.cells.1; have hfS := hS.cells.2; go_simp; (first | done | exact rfl | exact bB _ | (go_simp; first | done | exact rfl | exact bB _)))); intro K hK; go_simp; (try go_bits); refine hK _ ?_; clear hK K))); refine wpQI_nil ?_
  apply wpQ_call (i := 7) (by with_reducible (refine zA ?_; (repeat (first | exact zB | refine zC ?_)))) (by kernel_rfl) (by exact rfl); intro W hF hS; have hcS := hS.1.cells.1; have hfS := hS.1.cells.2; go_simp; (go_at_call 57; refine (K2.out _).mono ?_; rintro e w105 ⟨hb_w105, v105, rfl, hv105⟩; refine XPost.mk _ (fun W => IsC W v105 (y1)) hb_w105 (hv105) (IsC.cl _ _) ?_); clear hb_w105 hcS hfS hS hF
  intro K hK; go_simp; (try go_bits); refine hK _ ?_; clear hK K
  obtain ⟨s105, A105, n105, c105, rfl⟩ := IsC.val hv105
  clear hv105
  apply wpQ_call (i := 8) (by with_reducible (refine zA ?_; (repeat (first | exact zB | refine zC ?_)))) (by kernel_rfl) (by exact rfl); intro W hF hS; have hcS := hS.1.cells.1; have hfS := hS.1.cells.2; go_simp; (go_at_call 56; refine (K3.out _ _ _ ((RAt.pd (H102.out.below hS.1.2)).zl LD.out) (hF.zl LK1.out)).mono ?_; rintro e w106 ⟨hb_w106, v106, rfl, hv106⟩; refine XPost.mk _ (fun W => IsC W v106 (M1)) hb_w106 (hv106) (IsC.cl _ _) ?_); clear hb_w106 hcS hfS hS hF
  intro K hK; go_simp; (try go_bits); refine hK _ ?_; clear hK K
  obtain ⟨s106, A106, n106, c106, rfl⟩ := IsC.val hv106
  clear hv106
  apply wpQ_call (i := 9) (by with_reducible (refine zA ?_; (repeat (first | exact zB | refine zC ?_)))) (by kernel_rfl) (by exact rfl); intro W hF hS; have hcS := hS.1.cells.1; have hfS := hS.1.cells.2; go_simp; (go_at_call 55; refine (K4.out _ _ _ ((RAt.px (H102.out.below hS.1.2)).zl LX.out) (hF.2.zl LM1.out)).mono ?_; rintro e w107 ⟨hb_w107, v107, rfl, hv107⟩; refine XPost.mk _ (fun W => IsC W v107 (S1)) hb_w107 (hv107) (IsC.cl _ _) ?_); clear hb_w107 hcS hfS hS hF
  intro K hK; go_simp; (try go_bits); refine hK _ ?_; clear hK K
  obtain ⟨s107, A107, n107, c107, rfl⟩ := IsC.val hv107
  clear hv107
  refine wpQI_start [10] ?_; (iterate 1 (first | (apply wpQI_step (by with_reducible (refine zA ?_; (repeat (first | exact zB | refine zC ?_)))) (by kernel_rfl) (by exact rfl); (focus (intro W' hS; have hcS := hS.cells.1; have hfS := hS.cells.2; go_simp; (first | done | exact rfl | exact bB _ | (go_simp; first | done | exact rfl | exact bB _)))); intro K hK; go_simp; (try go_bits); refine hK _ ?_; clear hK K))); refine wpQI_nil ?_
  refine wpQ_done (by kernel_rfl) ?_
  intro w108 hF_w108 hSG
  have hz_w108 := hSG.1.1
  have hb_w108 := hSG.1.2
  clear hSG
  (with_reducible apply cel10 (b := w.heap.size) hb_w108); (focus ((try simp) <;> omega)); (focus omega); (iterate 10 (focus (go_simp; try exact rfl))); (focus (intro o; go_simp)); intro c_w108_0_0 c_w108_0_1 c_w108_0_2 c_w108_0_3 c_w108_0_4 c_w108_0_5 c_w108_0_6 c_w108_0_7 c_w108_0_8 c_w108_0_9 fz_w108_0 hl_w108_0; (with_reducible apply cel6 (b := w.heap.size + 1) hb_w108); (focus ((try simp) <;> omega)); (focus omega); (iterate 6 (focus (go_simp; try exact rfl))); (focus (intro o; go_simp)); intro c_w108_1_0 c_w108_1_1 c_w108_1_2 c_w108_1_3 c_w108_1_4 c_w108_1_5 fz_w108_1 hl_w108_1; (with_reducible apply cel6 (b := g_r8_14) hb_w108); (focus ((try simp) <;> omega)); (focus omega); (iterate 6 (focus (go_simp; try exact rfl))); (focus (intro o; go_simp)); intro c_w108_2_0 c_w108_2_1 c_w108_2_2 c_w108_2_3 c_w108_2_4 c_w108_2_5 fz_w108_2 hl_w108_2
  (try simp only [List.filterMap_cons, List.filterMap_nil, List.getElem?_cons_succ, List.getElem?_cons_zero])
  replace H102 := Lib.hid (H102.out.below hb_w108)
  have H105 := Lib.hid (show IsC w108 (.agg #[.bool s105, .slice A105 n105 c105]) (y1) from hF_w108.1.1)
  have H106 := Lib.hid (show IsC w108 (.agg #[.bool s106, .slice A106 n106 c106]) (M1) from hF_w108.1.2)
  have H107 := Lib.hid (show IsC w108 (.agg #[.bool s107, .slice A107 n107 c107]) (S1) from hF_w108.2)
  have HB108 := Lib.hid (HB104.out.trans (hb_w108.mono (by have := HB104.out.size; omega)))
  have hz108 : w.heap.size + 1 + 1 ≤ w108.heap.size := by omega
  clear hF_w108 hb_w108
  clear c_w104_0_0 c_w104_0_1 c_w104_0_2 c_w104_0_3 c_w104_0_4 c_w104_0_5 c_w104_0_6 c_w104_0_7 c_w104_0_8 c_w104_0_9 fz_w104_0 hl_w104_0 c_w104_1_0 c_w104_1_1 c_w104_1_2 c_w104_1_3 c_w104_1_4 c_w104_1_5 fz_w104_1 hl_w104_1 c_w104_2_0 c_w104_2_1 c_w104_2_2 c_w104_2_3 c_w104_2_4 c_w104_2_5 fz_w104_2 hl_w104_2
  go_wp2_with fail
  refine HQ_.out _ _ _ ?_
  clear HQ_ Q_
  go_wp2_with fail
  (refine pin_wp (N := _) (Nat.le_refl _) (fun w109 hb_w109 hz_w109 => ?_); (try simp at hz_w109); (with_reducible apply cel10 (b := w.heap.size) hb_w109); (focus ((try simp) <;> omega)); (focus omega); (iterate 10 (focus (go_simp; try exact rfl))); (focus (intro o; go_simp)); intro c_w109_0_0 c_w109_0_1 c_w109_0_2 c_w109_0_3 c_w109_0_4 c_w109_0_5 c_w109_0_6 c_w109_0_7 c_w109_0_8 c_w109_0_9 fz_w109_0 hl_w109_0; (with_reducible apply cel6 (b := w.heap.size + 1) hb_w109); (focus ((try simp) <;> omega)); (focus omega); (iterate 6 (focus (go_simp; try exact rfl))); (focus (intro o; go_simp)); intro c_w109_1_0 c_w109_1_1 c_w109_1_2 c_w109_1_3 c_w109_1_4 c_w109_1_5 fz_w109_1 hl_w109_1; (with_reducible apply cel6 (b := g_r8_14) hb_w109); (focus ((try simp) <;> omega)); (focus omega); (iterate 6 (focus (go_simp; try exact rfl))); (focus (intro o; go_simp)); intro c_w109_2_0 c_w109_2_1 c_w109_2_2 c_w109_2_3 c_w109_2_4 c_w109_2_5 fz_w109_2 hl_w109_2); refine wp_q (fun Q_ HQ_ => ?_); refine wp_region_floatQ w109.heap.size 11 [11] (Nat.le_refl _) (fun _ => True) trivial Cl.tt (by kernel_rfl) (by kernel_rfl) ?_
  clear H105
  clear H106
  replace H102 := Lib.hid (RAt.below (v := .agg #[.bool s102x, .slice A102x n102x c102x, .bool s102y, .slice A102y n102y c102y, .bool s102d, .slice A102d n102d c102d]) (x := r1) (y := r2) (d := r3) (by ((repeat (first | (with_reducible exact H102.out) | (with_reducible refine RAt.al ?_ _) | (with_reducible apply RAt.st1))) <;> (first | (with_reducible assumption) | (intro _ e; cases e; done) | (go_simp; first | done | exact rfl)))) hb_w109)
  replace H107 := Lib.hid (IsC.below (v := .agg #[.bool s107, .slice A107 n107 c107]) (z := S1) (by ((repeat (first | (with_reducible exact H107.out) | (with_reducible refine IsC.al ?_ _) | (with_reducible apply IsC.st1))) <;> (first | (with_reducible assumption) | (intro _ e; cases e; done) | (go_simp; first | done | exact rfl)))) hb_w109)
  have HB109 := Lib.hid (show Below w.heap.size w w109 by have hB := HB108.out; ((with_reducible (repeat (first | exact bR _ _ | refine bS ?_ ?_ _ | refine bA ?_ ?_ _ | refine bD ?_ | refine bT ?_ (by assumption) ?_ | refine bO (by assumption) ?_ ?_))) <;> (first | omega | (simp <;> omega))))
  have hz109 : w.heap.size + 1 + 1 ≤ w109.heap.size := by omega
  clear hb_w109
  clear c_w108_0_0 c_w108_0_1 c_w108_0_2 c_w108_0_3 c_w108_0_4 c_w108_0_5 c_w108_0_6 c_w108_0_7 c_w108_0_8 c_w108_0_9 fz_w108_0 hl_w108_0 c_w108_1_0 c_w108_1_1 c_w108_1_2 c_w108_1_3 c_w108_1_4 c_w108_1_5 fz_w108_1 hl_w108_1 c_w108_2_0 c_w108_2_1 c_w108_2_2 c_w108_2_3 c_w108_2_4 c_w108_2_5 fz_w108_2 hl_w108_2
  refine wpQI_start [0, 1, 2, 3, 4, 5, 6] ?_; (iterate 7 (first | (apply wpQI_step (by with_reducible (refine zA ?_; (repeat (first | exact zB | refine zC ?_)))) (by kernel_rfl) (by exact rfl); (focus (intro W' hS; have hcS := hS.cells.1; have hfS := hS.cells.2; go_simp; (first | done | exact rfl | exact bB _ | (go_simp; first | done | exact rfl | exact bB _)))); intro K hK; go_simp; (try go_bits); refine hK _ ?_; clear hK K))); refine wpQI_nil ?_
  apply wpQ_call (i := 7) (by with_reducible (refine zA ?_; (repeat (first | exact zB | refine zC ?_)))) (by kernel_rfl) (by exact rfl); intro W hF hS; have hcS := hS.1.cells.1; have hfS := hS.1.cells.2; go_simp; (go_at_call 57; refine (K5.out _).mono ?_; rintro e w110 ⟨hb_w110, v110, rfl, hv110⟩; refine XPost.mk _ (fun W => IsC W v110 (y2)) hb_w110 (hv110) (IsC.cl _ _) ?_); clear hb_w110 hcS hfS hS hF
  intro K hK; go_simp; (try go_bits); refine hK _ ?_; clear hK K
  obtain ⟨s110, A110, n110, c110, rfl⟩ := IsC.val hv110
  clear hv110
  apply wpQ_call (i := 8) (by with_reducible (refine zA ?_; (repeat (first | exact zB | refine zC ?_)))) (by kernel_rfl) (by exact rfl); intro W hF hS; have hcS := hS.1.cells.1; have hfS := hS.1.cells.2; go_simp; (go_at_call 56; refine (K6.out _ _ _ ((RAt.pd (H102.out.below hS.1.2)).zl LD.out) (hF.zl LK2.out)).mono ?_; rintro e w111 ⟨hb_w111, v111, rfl, hv111⟩; refine XPost.mk _ (fun W => IsC W v111 (M2)) hb_w111 (hv111) (IsC.cl _ _) ?_); clear hb_w111 hcS hfS hS hF
  intro K hK; go_simp; (try go_bits); refine hK _ ?_; clear hK K
  obtain ⟨s111, A111, n111, c111, rfl⟩ := IsC.val hv111
  clear hv111
  apply wpQ_call (i := 9) (by with_reducible (refine zA ?_; (repeat (first | exact zB | refine zC ?_)))) (by kernel_rfl) (by exact rfl); intro W hF hS; have hcS := hS.1.cells.1; have hfS := hS.1.cells.2; go_simp; (go_at_call 55; refine (K7.out _ _ _ ((RAt.py (H102.out.below hS.1.2)).zl LY.out) (hF.2.zl LM2.out)).mono ?_; rintro e w112 ⟨hb_w112, v112, rfl, hv112⟩; refine XPost.mk _ (fun W => IsC W v112 (S2)) hb_w112 (hv112) (IsC.cl _ _) ?_); clear hb_w112 hcS hfS hS hF
  intro K hK; go_simp; (try go_bits); refine hK _ ?_; clear hK K
  obtain ⟨s112, A112, n112, c112, rfl⟩ := IsC.val hv112
  clear hv112
  refine wpQI_start [10] ?_; (iterate 1 (first | (apply wpQI_step (by with_reducible (refine zA ?_; (repeat (first | exact zB | refine zC ?_)))) (by kernel_rfl) (by exact rfl); (focus (intro W' hS; have hcS := hS.cells.1; have hfS := hS.cells.2; go_simp; (first | done | exact rfl | exact bB _ | (go_simp; first | done | exact rfl | exact bB _)))); intro K hK; go_simp; (try go_bits); refine hK _ ?_; clear hK K))); refine wpQI_nil ?_
  refine wpQ_done (by kernel_rfl) ?_
  intro w113 hF_w113 hSG
  have hz_w113 := hSG.1.1
  have hb_w113 := hSG.1.2
  clear hSG
  (with_reducible apply cel10 (b := w.heap.size) hb_w113); (focus ((try simp) <;> omega)); (focus omega); (iterate 10 (focus (go_simp; try exact rfl))); (focus (intro o; go_simp)); intro c_w113_0_0 c_w113_0_1 c_w113_0_2 c_w113_0_3 c_w113_0_4 c_w113_0_5 c_w113_0_6 c_w113_0_7 c_w113_0_8 c_w113_0_9 fz_w113_0 hl_w113_0; (with_reducible apply cel6 (b := w.heap.size + 1) hb_w113); (focus ((try simp) <;> omega)); (focus omega); (iterate 6 (focus (go_simp; try exact rfl))); (focus (intro o; go_simp)); intro c_w113_1_0 c_w113_1_1 c_w113_1_2 c_w113_1_3 c_w113_1_4 c_w113_1_5 fz_w113_1 hl_w113_1; (with_reducible apply cel6 (b := g_r8_14) hb_w113); (focus ((try simp) <;> omega)); (focus omega); (iterate 6 (focus (go_simp; try exact rfl))); (focus (intro o; go_simp)); intro c_w113_2_0 c_w113_2_1 c_w113_2_2 c_w113_2_3 c_w113_2_4 c_w113_2_5 fz_w113_2 hl_w113_2
  (try simp only [List.filterMap_cons, List.filterMap_nil, List.getElem?_cons_succ, List.getElem?_cons_zero])
  replace H102 := Lib.hid (H102.out.below hb_w113)
  replace H107 := Lib.hid (H107.out.below hb_w113)
  have H110 := Lib.hid (show IsC w113 (.agg #[.bool s110, .slice A110 n110 c110]) (y2) from hF_w113.1.1)
  have H111 := Lib.hid (show IsC w113 (.agg #[.bool s111, .slice A111 n111 c111]) (M2) from hF_w113.1.2)
  have H112 := Lib.hid (show IsC w113 (.agg #[.bool s112, .slice A112 n112 c112]) (S2) from hF_w113.2)
  have HB113 := Lib.hid (HB109.out.trans (hb_w113.mono (by have := HB109.out.size; omega)))
  have hz113 : w.heap.size + 1 + 1 ≤ w113.heap.size := by omega
  clear hF_w113 hb_w113
  clear c_w109_0_0 c_w109_0_1 c_w109_0_2 c_w109_0_3 c_w109_0_4 c_w109_0_5 c_w109_0_6 c_w109_0_7 c_w109_0_8 c_w109_0_9 fz_w109_0 hl_w109_0 c_w109_1_0 c_w109_1_1 c_w109_1_2 c_w109_1_3 c_w109_1_4 c_w109_1_5 fz_w109_1 hl_w109_1 c_w109_2_0 c_w109_2_1 c_w109_2_2 c_w109_2_3 c_w109_2_4 c_w109_2_5 fz_w109_2 hl_w109_2
  go_wp2_with fail
  refine HQ_.out _ _ _ ?_
  clear HQ_ Q_
  go_wp2_with fail
  refine bodyPost_ret (v := .agg #[.bool s107, .slice A107 n107 c107, .bool s112, .slice A112 n112 c112, .bool s102d, .slice A102d n102d c102d]) (by simp only [results, Tryz.results24]; go_simp) rfl ⟨?_, ?_⟩
  · have hB := HB113.out; ((with_reducible (repeat (first | exact bR _ _ | refine bS ?_ ?_ _ | refine bA ?_ ?_ _ | refine bD ?_ | refine bT ?_ (by assumption) ?_ | refine bO (by assumption) ?_ ?_))) <;> (first | omega | (simp <;> omega)))
  · exact ⟨_, rfl, ⟨_, _, _, _, _, _, _, _, _, _, _, _, rfl, (by ((repeat (first | (with_reducible exact H107.out) | (with_reducible refine IsC.al ?_ _) | (with_reducible apply IsC.st1))) <;> (first | (with_reducible assumption) | (intro _ e; cases e; done) | (go_simp; first | done | exact rfl)))), (by ((repeat (first | (with_reducible exact H112.out) | (with_reducible refine IsC.al ?_ _) | (with_reducible apply IsC.st1))) <;> (first | (with_reducible assumption) | (intro _ e; cases e; done) | (go_simp; first | done | exact rfl)))), (RAt.pd (by ((repeat (first | (with_reducible exact H102.out) | (with_reducible refine RAt.al ?_ _) | (with_reducible apply RAt.st1))) <;> (first | (with_reducible assumption) | (intro _ e; cases e; done) | (go_simp; first | done | exact rfl)))))⟩⟩
set_option maxRecDepth 100000 in
set_option maxHeartbeats 20000000 in
theorem alone_o (a b n1 n2 x1 x2 y1 y2 e f p1 p2 k : Int) (g o n c : Nat) (w : World)
    (hg : g < w.heap.size) (i1 : 0 ≤ k) (i2 : k < (n : Int)) (c0 : w.cell? ⟨g, o + k.toNat * 2, none⟩ = some (.int .i64 p1)) (c1 : w.cell? ⟨g, o + k.toNat * 2 + 1, none⟩ = some (.int .i64 p2)) (hp1 : -1048576 ≤ p1 ∧ p1 ≤ 1048576) (hp2 : -1048576 ≤ p2 ∧ p2 ≤ 1048576) (h1 : ¬ k = a) (h2 : b = -1 ∨ ¬ k = b) :
    Calls Tryz.prog 24 #[.agg #[.int .i64 a, .int .i64 b, .int .i64 n1, .int .i64 n2, .int .i64 x1, .int .i64 x2, .int .i64 y1, .int .i64 y2, .int .i64 e, .int .i64 f], .slice (some ⟨g, o, none⟩) n c, .int .i64 k] w (TOut (p1, p2, 1) w) := by
  obtain ⟨U, hU⟩ : ∃ U : Int, U = 1 := ⟨_, rfl⟩
  have k1 := fun w => wof_any p1 w (by omega) (by omega)
  have k2 := fun w => wof_any p2 w (by omega) (by omega)
  have k3 := fun w => ((by have := wof_any 1 w (by omega) (by omega); rw [hU]; exact this) : Calls Tryz.prog 57 #[.int .i64 1] w (ZOut U w))
  unfold TOut
  simp only
  rw [← hU]
  have K1 := Lib.hid k1
  have K2 := Lib.hid k2
  have K3 := Lib.hid k3
  have hka : (k == a) = false := by rw [beq_eq_false_iff_ne]; exact h1
  clear k1 k2 k3 hU hp1 hp2
  have hcase : (b = -1) ∨ (¬ b = -1 ∧ ¬ k = b) := by omega
  clear h2
  rcases hcase with rfl | ⟨hb1, hb2⟩
  case' inr =>
    have hb0 : (b != -1) = true := by rw [bne_iff_ne]; exact hb1
    have hkb : (k == b) = false := by rw [beq_eq_false_iff_ne]; exact hb2
  all_goals
    go_enter Tryz.func24, Tryz.ntmps24; (try simp only [List.append_eq, List.cons_append, List.nil_append])
    go_wp2_with fail
    (refine pin_wp (N := _) (Nat.le_refl _) (fun w101 hb_w101 hz_w101 => ?_); (try simp at hz_w101); (with_reducible apply cel6 (b := w.heap.size + 1) hb_w101); (focus ((try simp) <;> omega)); (focus omega); (iterate 6 (focus (go_simp; try exact rfl))); (focus (intro o; go_simp)); intro c_w101_0_0 c_w101_0_1 c_w101_0_2 c_w101_0_3 c_w101_0_4 c_w101_0_5 fz_w101_0 hl_w101_0); refine wp_q (fun Q_ HQ_ => ?_); refine wp_region_floatQ w101.heap.size 14 [14] (Nat.le_refl _) (fun _ => True) trivial Cl.tt (by kernel_rfl) (by kernel_rfl) ?_
    have HB101 := Lib.hid (show Below w.heap.size w w101 by ((with_reducible (repeat (first | exact bR _ _ | refine bS ?_ ?_ _ | refine bA ?_ ?_ _ | refine bD ?_ | refine bT ?_ (by assumption) ?_ | refine bO (by assumption) ?_ ?_))) <;> (first | omega | (simp <;> omega))))
    have hz101 : w.heap.size + 1 + 1 ≤ w101.heap.size := by omega
    clear hb_w101
    skip
    have c0_w101 := (HB101.out.cell (p := ⟨g, o + k.toNat * 2, none⟩) hg).trans c0
    have c1_w101 := (HB101.out.cell (p := ⟨g, o + k.toNat * 2 + 1, none⟩) hg).trans c1
    have hg_w101 : g < w101.heap.size := by have := HB101.out.size; omega
    refine wpQI_start [0, 1, 2, 3, 4] ?_; (iterate 5 (first | (apply wpQI_step (by with_reducible (refine zA ?_; (repeat (first | exact zB | refine zC ?_)))) (by kernel_rfl) (by exact rfl); (focus (intro W' hS; have hcS := hS.cells.1; have hfS := hS.cells.2; go_simp; (first | done | exact rfl | exact bB _ | (go_simp; first | done | exact rfl | exact bB _)))); intro K hK; go_simp; (try go_bits); refine hK _ ?_; clear hK K))); refine wpQI_nil ?_
    refine wpQI_start [6, 7, 8, 9, 10] ?_; (iterate 5 (first | (apply wpQI_step (by with_reducible (refine zA ?_; (repeat (first | exact zB | refine zC ?_)))) (by kernel_rfl) (by exact rfl); (focus (intro W' hS; have hcS := hS.cells.1; have hfS := hS.cells.2; go_simp; (first | done | exact rfl | exact bB _ | (go_simp; first | done | exact rfl | exact bB _)))); intro K hK; go_simp; (try go_bits); refine hK _ ?_; clear hK K))); refine wpQI_nil ?_
    apply wpQ_call (i := 5) (by with_reducible (refine zA ?_; (repeat (first | exact zB | refine zC ?_)))) (by kernel_rfl) (by exact rfl); intro W hF hS; have hcS := hS.1.cells.1; have hfS := hS.1.cells.2; go_simp; (go_at_call 57; refine (K1.out _).mono ?_; rintro e w102 ⟨hb_w102, v102, rfl, hv102⟩; refine XPost.mk _ (fun W => IsC W v102 (p1)) hb_w102 (hv102) (IsC.cl _ _) ?_); clear hb_w102 hcS hfS hS hF
    intro K hK; go_simp; (try go_bits); refine hK _ ?_; clear hK K
    obtain ⟨s102, A102, n102, c102, rfl⟩ := IsC.val hv102
    clear hv102
    apply wpQ_call (i := 11) (by with_reducible (refine zA ?_; (repeat (first | exact zB | refine zC ?_)))) (by kernel_rfl) (by exact rfl); intro W hF hS; have hcS := hS.1.cells.1; have hfS := hS.1.cells.2; go_simp; (go_at_call 57; refine (K2.out _).mono ?_; rintro e w103 ⟨hb_w103, v103, rfl, hv103⟩; refine XPost.mk _ (fun W => IsC W v103 (p2)) hb_w103 (hv103) (IsC.cl _ _) ?_); clear hb_w103 hcS hfS hS hF
    intro K hK; go_simp; (try go_bits); refine hK _ ?_; clear hK K
    obtain ⟨s103, A103, n103, c103, rfl⟩ := IsC.val hv103
    clear hv103
    apply wpQ_call (i := 12) (by with_reducible (refine zA ?_; (repeat (first | exact zB | refine zC ?_)))) (by kernel_rfl) (by exact rfl); intro W hF hS; have hcS := hS.1.cells.1; have hfS := hS.1.cells.2; go_simp; (go_at_call 57; refine (K3.out _).mono ?_; rintro e w104 ⟨hb_w104, v104, rfl, hv104⟩; refine XPost.mk _ (fun W => IsC W v104 (U)) hb_w104 (hv104) (IsC.cl _ _) ?_); clear hb_w104 hcS hfS hS hF
    intro K hK; go_simp; (try go_bits); refine hK _ ?_; clear hK K
    obtain ⟨s104, A104, n104, c104, rfl⟩ := IsC.val hv104
    clear hv104
    refine wpQI_start [13] ?_; (iterate 1 (first | (apply wpQI_step (by with_reducible (refine zA ?_; (repeat (first | exact zB | refine zC ?_)))) (by kernel_rfl) (by exact rfl); (focus (intro W' hS; have hcS := hS.cells.1; have hfS := hS.cells.2; go_simp; (first | done | exact rfl | exact bB _ | (go_simp; first | done | exact rfl | exact bB _)))); intro K hK; go_simp; (try go_bits); refine hK _ ?_; clear hK K))); refine wpQI_nil ?_
    refine wpQ_done (by kernel_rfl) ?_
    intro w105 hF_w105 hSG
    have hz_w105 := hSG.1.1
    have hb_w105 := hSG.1.2
    clear hSG
    (with_reducible apply cel6 (b := w.heap.size + 1) hb_w105); (focus ((try simp) <;> omega)); (focus omega); (iterate 6 (focus (go_simp; try exact rfl))); (focus (intro o; go_simp)); intro c_w105_0_0 c_w105_0_1 c_w105_0_2 c_w105_0_3 c_w105_0_4 c_w105_0_5 fz_w105_0 hl_w105_0
    (try simp only [List.filterMap_cons, List.filterMap_nil, List.getElem?_cons_succ, List.getElem?_cons_zero])
    have H102 := Lib.hid (show IsC w105 (.agg #[.bool s102, .slice A102 n102 c102]) (p1) from hF_w105.1.1)
    have H103 := Lib.hid (show IsC w105 (.agg #[.bool s103, .slice A103 n103 c103]) (p2) from hF_w105.1.2)
    have H104 := Lib.hid (show IsC w105 (.agg #[.bool s104, .slice A104 n104 c104]) (U) from hF_w105.2)
    have HB105 := Lib.hid (HB101.out.trans (hb_w105.mono (by have := HB101.out.size; omega)))
    have hz105 : w.heap.size + 1 + 1 ≤ w105.heap.size := by omega
    clear hF_w105 hb_w105
    clear c_w101_0_0 c_w101_0_1 c_w101_0_2 c_w101_0_3 c_w101_0_4 c_w101_0_5 fz_w101_0 hl_w101_0
    go_wp2_with fail
    refine HQ_.out _ _ _ ?_
    clear HQ_ Q_
    go_wp2_with fail
    refine bodyPost_ret (v := .agg #[.bool s102, .slice A102 n102 c102, .bool s103, .slice A103 n103 c103, .bool s104, .slice A104 n104 c104]) (by simp only [results, Tryz.results24]; go_simp) rfl ⟨?_, ?_⟩
    · have hB := HB105.out; ((with_reducible (repeat (first | exact bR _ _ | refine bS ?_ ?_ _ | refine bA ?_ ?_ _ | refine bD ?_ | refine bT ?_ (by assumption) ?_ | refine bO (by assumption) ?_ ?_))) <;> (first | omega | (simp <;> omega)))
    · exact ⟨_, rfl, ⟨_, _, _, _, _, _, _, _, _, _, _, _, rfl, (by ((repeat (first | (with_reducible exact H102.out) | (with_reducible refine IsC.al ?_ _) | (with_reducible apply IsC.st1))) <;> (first | (with_reducible assumption) | (intro _ e; cases e; done) | (go_simp; first | done | exact rfl)))), (by ((repeat (first | (with_reducible exact H103.out) | (with_reducible refine IsC.al ?_ _) | (with_reducible apply IsC.st1))) <;> (first | (with_reducible assumption) | (intro _ e; cases e; done) | (go_simp; first | done | exact rfl)))), (by ((repeat (first | (with_reducible exact H104.out) | (with_reducible refine IsC.al ?_ _) | (with_reducible apply IsC.st1))) <;> (first | (with_reducible assumption) | (intro _ e; cases e; done) | (go_simp; first | done | exact rfl))))⟩⟩
end Go.Proofs.YtgejdaincnclpaaGreat
