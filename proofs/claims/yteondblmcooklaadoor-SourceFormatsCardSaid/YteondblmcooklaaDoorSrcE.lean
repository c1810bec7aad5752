/- Blocks of three and four cells; what a run of item hands back. -/
import Derived.Test.YteondblmcooklaaDoorSrcD
import Derived.Test.YteondblmcooklaaDoorDrawZ
namespace Go.Proofs.YteondblmcooklaaDoor
open Go Go.RowKit
set_option linter.unusedVariables false
structure C4 (w : World) (b : Nat) (v0 v1 v2 v3 : Value) : Prop where
  c0 : w.cell? ⟨b, 0, none⟩ = some v0
  c1 : w.cell? ⟨b, 1, none⟩ = some v1
  c2 : w.cell? ⟨b, 2, none⟩ = some v2
  c3 : w.cell? ⟨b, 3, none⟩ = some v3
  fz : ∀ o, w.frozen? ⟨b, o, none⟩ = false
  lt : b < w.heap.size
structure C3 (w : World) (b : Nat) (v0 v1 v2 : Value) : Prop where
  c0 : w.cell? ⟨b, 0, none⟩ = some v0
  c1 : w.cell? ⟨b, 1, none⟩ = some v1
  c2 : w.cell? ⟨b, 2, none⟩ = some v2
  fz : ∀ o, w.frozen? ⟨b, o, none⟩ = false
  lt : b < w.heap.size
theorem C4.block {w w' : World} {b : Nat} {v0 v1 v2 v3 : Value} (h : C4 w b v0 v1 v2 v3) (hs : w.heap.size ≤ w'.heap.size) (hb : w'.heap[b]? = w.heap[b]?) : C4 w' b v0 v1 v2 v3 :=
  ⟨(World.cell?_of_block (a := ⟨b, 0, none⟩) hb).trans h.c0, (World.cell?_of_block (a := ⟨b, 1, none⟩) hb).trans h.c1, (World.cell?_of_block (a := ⟨b, 2, none⟩) hb).trans h.c2, (World.cell?_of_block (a := ⟨b, 3, none⟩) hb).trans h.c3, fun o => (World.frozen?_of_block (a := ⟨b, o, none⟩) hb).trans (h.fz o), Nat.lt_of_lt_of_le h.lt hs⟩
theorem C3.block {w w' : World} {b : Nat} {v0 v1 v2 : Value} (h : C3 w b v0 v1 v2) (hs : w.heap.size ≤ w'.heap.size) (hb : w'.heap[b]? = w.heap[b]?) : C3 w' b v0 v1 v2 :=
  ⟨(World.cell?_of_block (a := ⟨b, 0, none⟩) hb).trans h.c0, (World.cell?_of_block (a := ⟨b, 1, none⟩) hb).trans h.c1, (World.cell?_of_block (a := ⟨b, 2, none⟩) hb).trans h.c2, fun o => (World.frozen?_of_block (a := ⟨b, o, none⟩) hb).trans (h.fz o), Nat.lt_of_lt_of_le h.lt hs⟩
theorem C4.below {w w' : World} {b B : Nat} {v0 v1 v2 v3 : Value} (h : C4 w b v0 v1 v2 v3) (hb : Below B w w') (hB : b < B) : C4 w' b v0 v1 v2 v3 := h.block hb.size (hb.block b hB)
theorem C3.below {w w' : World} {b B : Nat} {v0 v1 v2 : Value} (h : C3 w b v0 v1 v2) (hb : Below B w w') (hB : b < B) : C3 w' b v0 v1 v2 := h.block hb.size (hb.block b hB)
theorem C4.but {w w' : World} {b rb : Nat} {v0 v1 v2 v3 : Value} (h : C4 w b v0 v1 v2 v3) (hb : But rb w w') (hn : b ≠ rb) : C4 w' b v0 v1 v2 v3 := h.block hb.size (hb.block b h.lt hn)
theorem C3.but {w w' : World} {b rb : Nat} {v0 v1 v2 : Value} (h : C3 w b v0 v1 v2) (hb : But rb w w') (hn : b ≠ rb) : C3 w' b v0 v1 v2 := h.block hb.size (hb.block b h.lt hn)
theorem C4.alloc {w : World} {b : Nat} {v0 v1 v2 v3 : Value} (h : C4 w b v0 v1 v2 v3) (o : Obj) : C4 (w.alloc o) b v0 v1 v2 v3 := h.block (by simp) (heap_alloc_old w o h.lt)
theorem C3.alloc {w : World} {b : Nat} {v0 v1 v2 : Value} (h : C3 w b v0 v1 v2) (o : Obj) : C3 (w.alloc o) b v0 v1 v2 := h.block (by simp) (heap_alloc_old w o h.lt)
theorem C4.new (w : World) (v0 v1 v2 v3 : Value) (e : TypeId) : C4 (w.alloc (.cells #[v0, v1, v2, v3] e)) w.heap.size v0 v1 v2 v3 := ⟨by go_simp, by go_simp, by go_simp, by go_simp, fun o => by go_simp, by simp⟩
theorem C3.new (w : World) (v0 v1 v2 : Value) (e : TypeId) : C3 (w.alloc (.cells #[v0, v1, v2] e)) w.heap.size v0 v1 v2 := ⟨by go_simp, by go_simp, by go_simp, fun o => by go_simp, by simp⟩
/-- A result of reading. -/
def ItemOut (rb N e : Nat) (R : PR IV) (w : World) (ε : Ending) (w' : World) : Prop := But rb w w' ∧ match R with
  | .err a b => ε = .panicked (flt a b)
  | .ok x r => ∃ B d A c, ε = .returned (vOfX x B d) ∧ KsOwn w' w.heap.size 71 B d x.keys ∧ RdAt w' rb N A r e c
def mkI (word name : ByteArray) (a : Nat) : PR (List KV) → PR IV
  | .err c b => .err c b
  | .ok ks l => .ok ⟨word, name, ks, a⟩ l
def numK (e : Nat) (word : ByteArray) (f : Nat) (acc : List KV) (key : ByteArray) (a : Nat) : PR (List Int) → PR (List KV)
  | .err c b => .err c b
  | .ok vs l => keysF e word f (acc ++ [⟨key, vs, a⟩]) l
theorem restF_eq (e : Nat) (word name : ByteArray) (a : Nat) (l : List WV) : restF e word name a l = mkI word name a (keysF e word (l.length + 1) [] l) := by
  unfold restF mkI
  cases keysF e word (l.length + 1) [] l <;> rfl
theorem keysF_key {e f : Nat} {word : ByteArray} {acc : List KV} {x : WV} {l : List WV} (h3 : x.kind = 1) (ha : ¬ arR word x.text < 0) (hh : hasK acc x.text = false) : keysF e word (f + 1) acc (x :: l) = numK e word f acc x.text x.at_ (numsF e (arR word x.text).toNat [] l) := by
  simp only [keysF]
  rw [if_neg (by omega), if_neg (by omega), if_neg ha, if_neg (by simp [hh])]
  unfold numK
  cases numsF e (arR word x.text).toNat [] l <;> rfl
theorem isK_cons {l : List WV} {k : Int} (h : isK l k = true) : ∃ x l', l = x :: l' ∧ x.kind = k := by
  cases l with
  | nil => cases h
  | cons x l => exact ⟨x, l, rfl, by simpa [isK] using h⟩
theorem isK_not {x : WV} {l : List WV} {k : Int} (h : isK (x :: l) k = false) : ¬ x.kind = k := by simpa [isK] using h
theorem ownr_low {w : World} {base size n : Nat} {e : TypeId} {v : Value} {xs : List Value} (h : w.ownsRow base e size v n xs) {p : Addr} (hp : p.block < base) (u : Value) : (w.setCell p u).ownsRow base e size v n xs :=
  ownsRow_block h fun b hv => Below.heap_setCell _ _ _ _ (by have := (h.lt b hv).1; omega)
theorem OwnI.low {w : World} {base : Nat} {A : Option Addr} {c : Nat} {l : List Int} (h : OwnI w base A c l) {p : Addr} (hp : p.block < base) (u : Value) : OwnI (w.setCell p u) base A c l := ownr_low h hp u
theorem KsOwn.low {w : World} {base : Nat} {tK : TypeId} {A : Option Addr} {c : Nat} {l : List KV} (h : KsOwn w base tK A c l) {p : Addr} (hp : p.block < base) (u : Value) : KsOwn (w.setCell p u) base tK A c l := by
  obtain ⟨ps, h1, h2, h3⟩ := h
  exact ⟨ps, h1, ownr_low h2 hp u, fun p' hp' => (h3 p' hp').low hp u⟩
theorem C3.grown {w w' : World} {b base : Nat} {v0 v1 v2 : Value} {row : Option Nat} (h : C3 w b v0 v1 v2) (hg : w.grownBy w' row) (hr : ∀ k, row = some k → base ≤ k) (hb : b < base) : C3 w' b v0 v1 v2 := h.block hg.size (hg.block b h.lt (fun e => by have := hr b e.symm; omega))
theorem C4.grown {w w' : World} {b base : Nat} {v0 v1 v2 v3 : Value} {row : Option Nat} (h : C4 w b v0 v1 v2 v3) (hg : w.grownBy w' row) (hr : ∀ k, row = some k → base ≤ k) (hb : b < base) : C4 w' b v0 v1 v2 v3 := h.block hg.size (hg.block b h.lt (fun e => by have := hr b e.symm; omega))
theorem C4.low {w : World} {b : Nat} {v0 v1 v2 v3 : Value} (h : C4 w b v0 v1 v2 v3) {p : Addr} (hp : p.block ≠ b) (u : Value) : C4 (w.setCell p u) b v0 v1 v2 v3 := h.block (by simp) (Below.heap_setCell _ _ _ _ (by omega))
theorem C3.set1 {w : World} {b : Nat} {v0 v1 v2 : Value} (h : C3 w b v0 v1 v2) (u : Value) : C3 (w.setCell ⟨b, 1, none⟩ u) b v0 u v2 := by
  obtain ⟨c0, c1, c2, fz, lt⟩ := h
  exact ⟨by go_simp, by go_simp, by go_simp, fun o => by go_simp, by simpa using lt⟩
theorem C4.set1 {w : World} {b : Nat} {v0 v1 v2 v3 : Value} (h : C4 w b v0 v1 v2 v3) (u : Value) : C4 (w.setCell ⟨b, 1, none⟩ u) b v0 u v2 v3 := by
  obtain ⟨c0, c1, c2, c3, fz, lt⟩ := h
  exact ⟨by go_simp, by go_simp, by go_simp, by go_simp, fun o => by go_simp, by simpa using lt⟩
theorem C4.set2 {w : World} {b : Nat} {v0 v1 v2 v3 : Value} (h : C4 w b v0 v1 v2 v3) (u : Value) : C4 (w.setCell ⟨b, 2, none⟩ u) b v0 v1 u v3 := by
  obtain ⟨c0, c1, c2, c3, fz, lt⟩ := h
  exact ⟨by go_simp, by go_simp, by go_simp, by go_simp, fun o => by go_simp, by simpa using lt⟩
theorem RdAt.drew {w : World} {rb N : Nat} {A : Option Addr} {l : List WV} {e c : Nat} (h : RdAt w rb N A l e c) : RdAt w.drew rb N A l e c := ⟨h.hw, h.he, h.fz, h.lt, h.nle, h.cap, h.ws⟩
theorem But.of_drew {rb : Nat} {w w' : World} (h : But rb w.drew w') : But rb w w' := ⟨h.os, h.tape, h.output, h.size, h.block⟩
theorem below_drew {B : Nat} {w w' : World} (h : Below B w.drew w') : Below B w w' := ⟨h.os, h.tape, h.output, h.size, h.block⟩
theorem Tabs.set {w : World} (h : Tabs w) {p : Addr} (hp : 3 ≤ p.block) (u : Value) : Tabs (w.setCell p u) := h.but ((But.refl p.block w).set u (.inl rfl)) hp
theorem Tabs.grown {w w' : World} {row : Option Nat} (h : Tabs w) (hg : w.grownBy w' row) (hr : ∀ k, row = some k → 3 ≤ k) : Tabs w' := by
  have := h.three
  exact ⟨tab_block gSp h.sp (hg.block _ (by omega) (fun e => by have := hr _ e.symm; omega)), tab_block gPw h.pw (hg.block _ (by omega) (fun e => by have := hr _ e.symm; omega))⟩
/-- A row of keys, opened for one more. -/
theorem KsOwn.more {w : World} {base : Nat} {tK : TypeId} {A : Option Addr} {c : Nat} {l : List KV} (hne : tK ≠ 3) (h : KsOwn w base tK A c l) : ∃ xs, w.ownsRow base tK 3 (.slice A l.length c) l.length xs ∧
    ∀ (x : KV) (B : Option Addr) (d : Nat) (v' : Value) (w' : World), OwnI w base B d x.vals → w'.ownsRow base tK 3 v' (l.length + 1) (xs ++ cellsOfK x B d) → w.grownBy w' (Value.ownBlock (.slice A l.length c)) → ∃ A' c', v' = .slice A' (l ++ [x]).length c' ∧ KsOwn w' base tK A' c' (l ++ [x]) := by
  obtain ⟨ps, rfl, h2, h3⟩ := h
  have e : (ps.map (·.1)).length = ps.length := List.length_map _
  rw [e] at h2 ⊢
  exact ⟨_, h2, fun x B d v' w' hx hw hg => KsOwn.snoc hne h2 h3 hx hw hg⟩
theorem XsOwn.more {w : World} {base : Nat} {tX tK : TypeId} {A : Option Addr} {c : Nat} {l : List IV} (n1 : tK ≠ tX) (n2 : 3 ≠ tX) (h : XsOwn w base tX tK A c l) : ∃ xs, w.ownsRow base tX 4 (.slice A l.length c) l.length xs ∧
    ∀ (x : IV) (B : Option Addr) (d : Nat) (v' : Value) (w' : World), KsOwn w base tK B d x.keys → w'.ownsRow base tX 4 v' (l.length + 1) (xs ++ cellsOfX x B d) → w.grownBy w' (Value.ownBlock (.slice A l.length c)) → ∃ A' c', v' = .slice A' (l ++ [x]).length c' ∧ XsOwn w' base tX tK A' c' (l ++ [x]) := by
  obtain ⟨ps, rfl, h2, h3⟩ := h
  have e : (ps.map (·.1)).length = ps.length := List.length_map _
  rw [e] at h2 ⊢
  exact ⟨_, h2, fun x B d v' w' hx hw hg => XsOwn.snoc n1 n2 h2 h3 hx hw hg⟩
theorem cells1 {w : World} {g : Nat} {x : Value} (h : w.cell? ⟨g, 0, none⟩ = some x) : ∀ j u, [x][j]? = some u → w.cell? ⟨g, j, none⟩ = some u := fun j u hj => by
  rcases j with _ | j
  · simp only [List.getElem?_cons_zero, Option.some.injEq] at hj
    subst hj; exact h
  · simp at hj
theorem C3.cells {w : World} {b : Nat} {v0 v1 v2 : Value} (h : C3 w b v0 v1 v2) : ∀ j u, [v0, v1, v2][j]? = some u → w.cell? ⟨b, j, none⟩ = some u := fun j u hj => by
  rcases j with _ | _ | _ | j
  · simp only [List.getElem?_cons_zero, Option.some.injEq] at hj
    subst hj; exact h.c0
  · simp only [List.getElem?_cons_succ, List.getElem?_cons_zero, Option.some.injEq] at hj
    subst hj; exact h.c1
  · simp only [List.getElem?_cons_succ, List.getElem?_cons_zero, Option.some.injEq] at hj
    subst hj; exact h.c2
  · simp at hj
theorem C4.cells {w : World} {b : Nat} {v0 v1 v2 v3 : Value} (h : C4 w b v0 v1 v2 v3) : ∀ j u, [v0, v1, v2, v3][j]? = some u → w.cell? ⟨b, j, none⟩ = some u := fun j u hj => by
  rcases j with _ | _ | _ | _ | j
  · simp only [List.getElem?_cons_zero, Option.some.injEq] at hj
    subst hj; exact h.c0
  · simp only [List.getElem?_cons_succ, List.getElem?_cons_zero, Option.some.injEq] at hj
    subst hj; exact h.c1
  · simp only [List.getElem?_cons_succ, List.getElem?_cons_zero, Option.some.injEq] at hj
    subst hj; exact h.c2
  · simp only [List.getElem?_cons_succ, List.getElem?_cons_zero, Option.some.injEq] at hj
    subst hj; exact h.c3
  · simp at hj
theorem field_word2 (w : World) (a b c d : Value) : (Instr.field 92 (.agg #[a, b, c, d]) 2).run Tryd.prog w = .ok c w := by
  simp [Instr.field, part, isAgg, asAgg, run_underlying Tryd.underlying92, run_underlying Tryd.underlying3, go_sem]
theorem field_word1 (w : World) (a b c d : Value) : (Instr.field 92 (.agg #[a, b, c, d]) 1).run Tryd.prog w = .ok b w := by
  simp [Instr.field, part, isAgg, asAgg, run_underlying Tryd.underlying92, run_underlying Tryd.underlying9, go_sem]
attribute [go_sem] field_word1 field_word2
theorem XsOwn.low {w : World} {base : Nat} {tX tK : TypeId} {A : Option Addr} {c : Nat} {l : List IV} (h : XsOwn w base tX tK A c l) {p : Addr} (hp : p.block < base) (u : Value) : XsOwn (w.setCell p u) base tX tK A c l := by
  obtain ⟨ps, h1, h2, h3⟩ := h
  exact ⟨ps, h1, ownr_low h2 hp u, fun p' hp' => (h3 p' hp').low hp u⟩
theorem XsOwn.weaker {w : World} {base base' : Nat} {tX tK : TypeId} {A : Option Addr} {c : Nat} {l : List IV} (h : XsOwn w base tX tK A c l) (hb : base' ≤ base) : XsOwn w base' tX tK A c l := by
  obtain ⟨ps, h1, h2, h3⟩ := h
  exact ⟨ps, h1, ownr_weaker h2 hb, fun p hp => (h3 p hp).weaker hb⟩
theorem RdAt.new {W : World} {N : Nat} {A : Option Addr} {l : List WV} {e c b : Nat} {t : TypeId} (hw : WvAt W N A l) (hN : N ≤ W.heap.size) (hc : l.length ≤ c) (hb : b = W.heap.size) : RdAt (W.alloc (.cells #[.slice A l.length c, .int .i64 e] t)) b N A l e c := by
  subst hb
  exact ⟨by go_simp, by go_simp, fun o => by go_simp, by simp, hN, hc, hw.below ((Below.refl W.heap.size W).alloc (Nat.le_refl _) _) hN⟩
end Go.Proofs.YteondblmcooklaaDoor
