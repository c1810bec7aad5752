/- Merged texts: Big BigW BigM BigO BigC BigMul BigP BigT BigUp BigDn BigDv Byt Dg (what no proof of the claim needs is left out). -/
import Derived.Test.YteondblmcooklaaDoorDraw
import Derived.Test.YteondblmcooklaaDoorProg
import Derived.WalkKit
import Derived.WalkSpells
import Derived.WalkLawsBesides
import Derived.Outline
import Derived.Lib.Hide
import Derived.IntWalk
import Derived.Maps.AppendAt
import Derived.Deep.AppendLies
import Derived.Deep.OwnRows
import Derived.Lib.EndianBits
import Derived.Lib.ItoaNum
import Derived.Laws.IdiomStrings
import Derived.Deep.LoopGhost
import Derived.RegionTactic
import Derived.Laws.Concat
import Derived.Lib.ItoaMem
namespace Go.Proofs.YteondblmcooklaaDoor
set_option linter.unusedVariables false
/-- Every limb is below 2^32. -/
def Lim (l : List Int) : Prop := ∀ x ∈ l, 0 ≤ x ∧ x < 4294967296
/-- The powers of 2^32. -/
def PB (k : Nat) : Int := 4294967296 ^ k
theorem PB_zero : PB 0 = 1 := rfl
theorem PB_succ (k : Nat) : PB (k + 1) = 4294967296 * PB k := by unfold PB; rw [Int.pow_succ, Int.mul_comm]
theorem PB_pos (k : Nat) : 0 < PB k := Int.pow_pos (by decide)
theorem PB_mono {a b : Nat} (h : a ≤ b) : PB a ≤ PB b := by
  obtain ⟨c, rfl⟩ := Nat.le.dest h
  induction c with
  | zero => exact Int.le_refl _
  | succ c ih =>
    have h1 := ih (by omega)
    have h2 := PB_pos (a + c)
    rw [← Nat.add_assoc, PB_succ]
    omega
/-- What limbs are worth, the lowest first. -/
def mv : List Int → Int
  | [] => 0
  | x :: l => x + 4294967296 * mv l
theorem mv_cons (x : Int) (l : List Int) : mv (x :: l) = x + 4294967296 * mv l := rfl
theorem Lim.nil : Lim [] := fun _ h => by cases h
theorem Lim.cons {x : Int} {l : List Int} (h0 : 0 ≤ x) (h1 : x < 4294967296) (h : Lim l) : Lim (x :: l) := by
  intro y hy
  rcases List.mem_cons.1 hy with rfl | hy
  · exact ⟨h0, h1⟩
  · exact h y hy
theorem Lim.tail {x : Int} {l : List Int} (h : Lim (x :: l)) : Lim l := fun y hy => h y (by simp [hy])
theorem Lim.take {l : List Int} (h : Lim l) (k : Nat) : Lim (l.take k) := fun y hy => h y (List.mem_of_mem_take hy)
theorem Lim.drop {l : List Int} (h : Lim l) (k : Nat) : Lim (l.drop k) := fun y hy => h y (List.mem_of_mem_drop hy)
theorem Lim.append {a b : List Int} (h : Lim a) (h' : Lim b) : Lim (a ++ b) := fun y hy => by
  rcases List.mem_append.1 hy with g | g
  · exact h y g
  · exact h' y g
theorem Lim.set {x : Int} {l : List Int} (h : Lim l) (k : Nat) (h0 : 0 ≤ x) (h1 : x < 4294967296) : Lim (l.set k x) := fun y hy => by
  rcases List.mem_or_eq_of_mem_set hy with g | rfl
  · exact h y g
  · exact ⟨h0, h1⟩
theorem Lim.get {l : List Int} (h : Lim l) {k : Nat} {x : Int} (hx : l[k]? = some x) : 0 ≤ x ∧ x < 4294967296 := h x (List.mem_of_getElem? hx)
theorem Lim.replicate (n : Nat) : Lim (List.replicate n 0) := fun y hy => by
  rw [(List.mem_replicate.1 hy).2]; omega
theorem mv_nonneg {l : List Int} (h : Lim l) : 0 ≤ mv l := by
  induction l with
  | nil => exact Int.le_refl _
  | cons x l ih =>
    have h1 := h x (by simp)
    have h2 := ih h.tail
    unfold mv
    omega
theorem mv_lt {l : List Int} (h : Lim l) : mv l < PB l.length := by
  induction l with
  | nil => exact Int.one_pos
  | cons x l ih =>
    have h1 := h x (by simp)
    have h2 := ih h.tail
    rw [List.length_cons, PB_succ]
    unfold mv
    omega
theorem mv_append (a b : List Int) : mv (a ++ b) = mv a + PB a.length * mv b := by
  induction a with
  | nil => simp [mv, PB_zero]
  | cons x a ih =>
    rw [List.cons_append, List.length_cons, PB_succ]
    rw [mv_cons, mv_cons, ih]
    grind
theorem mv_one (x : Int) : mv [x] = x := by unfold mv mv; omega
theorem mv_two (x y : Int) : mv [x, y] = x + 4294967296 * y := by unfold mv mv mv; omega
theorem drop_consI {l : List Int} {k : Nat} {x : Int} (hx : l[k]? = some x) : l.drop k = x :: l.drop (k + 1) := by
  obtain ⟨hk, e⟩ := List.getElem?_eq_some_iff.1 hx
  rw [List.drop_eq_getElem_cons hk, e]
theorem mv_drop_succ {l : List Int} {k : Nat} {x : Int} (hx : l[k]? = some x) : mv (l.drop k) = x + 4294967296 * mv (l.drop (k + 1)) := by
  rw [drop_consI hx]; rfl
theorem mv_split (l : List Int) (k : Nat) (h : k ≤ l.length) : mv l = mv (l.take k) + PB k * mv (l.drop k) := by
  have e := mv_append (l.take k) (l.drop k)
  rw [List.take_append_drop, List.length_take, Nat.min_eq_left h] at e
  exact e
/-- The limbs of a number, without a zero at the end. -/
def canN (n : Nat) : List Int := if h : n = 0 then [] else ((n % 4294967296 : Nat) : Int) :: canN (n / 4294967296)
termination_by n
decreasing_by omega
theorem canN_zero : canN 0 = [] := by unfold canN; rfl
theorem canN_pos {n : Nat} (h : n ≠ 0) : canN n = ((n % 4294967296 : Nat) : Int) :: canN (n / 4294967296) := by
  rw [canN, dif_neg h]
theorem canN_lim (n : Nat) : Lim (canN n) := by
  induction n using Nat.strongRecOn with
  | ind n ih =>
    by_cases h : n = 0
    · subst h; rw [canN_zero]; exact Lim.nil
    · rw [canN_pos h]; exact Lim.cons (by omega) (by omega) (ih _ (by omega))
theorem mv_canN (n : Nat) : mv (canN n) = n := by
  induction n using Nat.strongRecOn with
  | ind n ih =>
    by_cases h : n = 0
    · subst h; rw [canN_zero]; rfl
    · rw [canN_pos h]; unfold mv; rw [ih _ (by omega)]; omega
theorem canN_last (n : Nat) : ∀ x, (canN n).getLast? = some x → x ≠ 0 := by
  induction n using Nat.strongRecOn with
  | ind n ih =>
    by_cases h : n = 0
    · subst h; rw [canN_zero]; intro x hx; cases hx
    · rw [canN_pos h]
      intro x hx
      by_cases h2 : n / 4294967296 = 0
      · rw [h2, canN_zero] at hx
        simp only [List.getLast?_singleton, Option.some.injEq] at hx
        omega
      · have h3 := canN_pos h2
        rw [h3, List.getLast?_cons_cons, ← h3] at hx
        exact ih _ (by omega) x hx
/-- Limbs without a zero at the end are those of their number. -/
theorem canN_of {l : List Int} (h : Lim l) (hl : ∀ x, l.getLast? = some x → x ≠ 0) : l = canN (mv l).toNat := by
  induction l with
  | nil => exact canN_zero.symm
  | cons x l ih =>
    have hx := h x (by simp)
    have h0 := mv_nonneg h.tail
    have ih' := ih h.tail (fun y hy => by
      cases l with
      | nil => cases hy
      | cons z l => exact hl y (by rw [List.getLast?_cons_cons]; exact hy))
    have hne : (mv (x :: l)).toNat ≠ 0 := by
      intro hz
      have hv : mv (x :: l) = x + 4294967296 * mv l := rfl
      have h1 : mv l = 0 := by omega
      rw [h1] at ih'
      have : canN (0 : Int).toNat = [] := canN_zero
      rw [this] at ih'
      subst ih'
      have := hl x rfl
      rw [h1] at hv
      omega
    have hv : mv (x :: l) = x + 4294967296 * mv l := rfl
    rw [canN_pos hne]
    have e1 : (((mv (x :: l)).toNat % 4294967296 : Nat) : Int) = x := by omega
    have e2 : (mv (x :: l)).toNat / 4294967296 = (mv l).toNat := by omega
    rw [e1, e2, ← ih']
theorem canN_len {n k : Nat} : (canN n).length ≤ k ↔ (n : Int) < PB k := by
  constructor
  · intro h
    have h1 := mv_lt (canN_lim n)
    rw [mv_canN] at h1
    have := PB_mono h
    omega
  · intro h
    induction k generalizing n with
    | zero =>
      have : n = 0 := by rw [PB_zero] at h; omega
      subst this; rw [canN_zero]; simp
    | succ k ih =>
      by_cases h0 : n = 0
      · subst h0; rw [canN_zero]; simp
      · rw [canN_pos h0, List.length_cons]
        have := @ih (n / 4294967296) (by rw [PB_succ] at h; omega)
        omega
theorem canN_len0 {n : Nat} : (canN n).length = 0 ↔ n = 0 := by
  constructor
  · intro h
    have := mv_canN n
    rw [List.length_eq_zero_iff.1 h] at this
    unfold mv at this
    omega
  · rintro rfl; rw [canN_zero]; rfl
/-- Limbs that end in nothing but zeros from a place on. -/
theorem mv_take_of_zero {l : List Int} {n : Nat} (h : ∀ k x, l[k]? = some x → n ≤ k → x = 0) : mv (l.take n) = mv l := by
  have hz : ∀ l : List Int, (∀ x ∈ l, x = 0) → mv l = 0 := by
    intro l
    induction l with
    | nil => intro _; rfl
    | cons y l ih =>
      intro hl
      have h1 := hl y (by simp)
      have h2 := ih (fun x hx => hl x (by simp [hx]))
      unfold mv
      omega
  rcases Nat.le_total l.length n with hl | hl
  · rw [List.take_of_length_le hl]
  · have h1 := mv_split l n hl
    have h2 := hz (l.drop n) (fun x hx => by
      obtain ⟨i, hi⟩ := List.getElem?_of_mem hx
      rw [List.getElem?_drop] at hi
      exact h _ x hi (by omega))
    rw [h2] at h1
    omega
/-- What is left when the zeros at the end are struck. -/
theorem canN_take {l : List Int} {n : Nat} (hl : Lim l) (hn : n ≤ l.length) (h : ∀ k x, l[k]? = some x → n ≤ k → x = 0) (h1 : ∀ x, 0 < n → l[n - 1]? = some x → x ≠ 0) :
    l.take n = canN (mv l).toNat := by
  have e := canN_of (hl.take n) (fun x hx => by
    rw [List.getLast?_eq_getElem?, List.length_take, Nat.min_eq_left hn] at hx
    by_cases h0 : n = 0
    · subst h0; simp at hx
    · rw [List.getElem?_take, if_pos (by omega)] at hx
      exact h1 x (by omega) hx)
  rw [mv_take_of_zero h] at e
  exact e
/-- The sign and the limbs of a number. -/
def sv (neg : Bool) (m : Int) : Int := if neg = true then -m else m
end Go.Proofs.YteondblmcooklaaDoor
namespace Go.Proofs.YteondblmcooklaaDoor
open Go Go.RowKit
set_option linter.unusedVariables false
/-- The address leads to these limbs. -/
def LAt (w : World) (A : Option Addr) (l : List Int) : Prop := ∀ k x, l[k]? = some x → ∃ g o, A = some ⟨g, o, none⟩ ∧ g < w.heap.size ∧ w.cell? ⟨g, o + k, none⟩ = some (.int .u32 x)
theorem LAt.nil (w : World) (A : Option Addr) : LAt w A [] := fun k x h => by simp at h
theorem LAt.below {w w1 : World} {A : Option Addr} {l : List Int} (h : LAt w A l) (hb : Below w.heap.size w w1) : LAt w1 A l := by
  intro k x hx
  obtain ⟨g, o, hA, hg, hc⟩ := h k x hx
  exact ⟨g, o, hA, Nat.lt_of_lt_of_le hg hb.size, by rw [hb.cell (by simpa using hg)]; exact hc⟩
theorem LAt.own {w w1 : World} {A : Option Addr} {l : List Int} {N : Nat} (h : LAt w A l) (hb : Own N w w1) (hN : w.heap.size ≤ N) : LAt w1 A l := h.below (hb.2.mono hN)
theorem LAt.drew {w : World} {A : Option Addr} {l : List Int} (h : LAt w A l) : LAt w.drew A l := h
theorem LAt.alloc {w : World} {A : Option Addr} {l : List Int} (h : LAt w A l) (o : Obj) : LAt (w.alloc o) A l := h.below ((Below.refl _ _).alloc (Nat.le_refl _) _)
theorem LAt.take {w : World} {A : Option Addr} {l : List Int} (h : LAt w A l) (n : Nat) : LAt w A (l.take n) := by
  intro k x hx
  rw [List.getElem?_take] at hx
  split at hx
  · exact h k x hx
  · cases hx
/-- A store where no limb was. -/
theorem LAt.setCell {w : World} {A : Option Addr} {l : List Int} (h : LAt w A l) {p : Addr} {u : Value} (hp : w.cell? p = some u) (hu : ∀ x, u ≠ .int .u32 x) (v : Value) : LAt (w.setCell p v) A l := by
  intro k x hx
  obtain ⟨g, o, hA, hg, hc⟩ := h k x hx
  refine ⟨g, o, hA, by simpa [World.setCell] using hg, ?_⟩
  rw [World.cell?_setCell_other w p _ v (fun e => by
    subst e
    rw [hc] at hp
    exact hu x (Option.some.inj hp).symm)]
  exact hc
theorem LAt.set2 {w : World} {A : Option Addr} {l : List Int} (h : LAt w A l) {b : Nat} {b0 : Bool} {a : Option Addr} {n c : Nat} (h0 : w.cell? ⟨b, 0, none⟩ = some (.bool b0)) (h1 : w.cell? ⟨b, 1, none⟩ = some (.slice a n c)) (x y : Value) :
    LAt ((w.setCell ⟨b, 0, none⟩ x).setCell ⟨b, 1, none⟩ y) A l := by
  refine (h.setCell h0 (fun _ e => by cases e) x).setCell (u := .slice a n c) ?_ (fun _ e => by cases e) y
  rw [World.cell?_setCell_other w _ _ x (fun e => by simp at e)]
  exact h1
theorem LAt.grown {w w1 : World} {A : Option Addr} {l : List Int} {row : Option Nat} (h : LAt w A l) (hg : w.grownBy w1 row) (hne : ∀ g o, A = some ⟨g, o, none⟩ → some g ≠ row) : LAt w1 A l := by
  intro k x hx
  obtain ⟨g, o, hA, hlt, hc⟩ := h k x hx
  exact ⟨g, o, hA, Nat.lt_of_lt_of_le hlt hg.size, by rw [World.cell?_of_block (hg.block g hlt (hne g o hA))]; exact hc⟩
/-- A row of limbs that the call owns. -/
def OwnL (w : World) (base : Nat) (v : Value) (l : List Int) : Prop := w.ownsRow base 112 1 v l.length (l.map (Value.int .u32))
theorem OwnL.nil (w : World) (base : Nat) : OwnL w base (.slice none 0 0) [] := World.ownsRow_nil _ _ _ _
theorem OwnL.alloc {w : World} {base : Nat} {v : Value} {l : List Int} (h : OwnL w base v l) (o : Obj) : OwnL (w.alloc o) base v l := World.ownsRow.alloc h o
theorem OwnL.below {w w1 : World} {base : Nat} {v : Value} {l : List Int} (h : OwnL w base v l) (hb : Below w.heap.size w w1) : OwnL w1 base v l := by
  obtain ⟨h1, h2⟩ := h
  refine ⟨h1, ?_⟩
  rcases h2 with h2 | ⟨g, cap, cur, hv, hg, hh, r⟩
  · exact .inl h2
  · refine .inr ⟨g, cap, cur, hv, hg, ?_, r⟩
    have hlt : g < w.heap.size := (Array.getElem?_eq_some_iff.1 hh).1
    rw [hb.block _ hlt]; exact hh
theorem OwnL.setCell {w : World} {base : Nat} {v : Value} {l : List Int} (h : OwnL w base v l) {p : Addr} (hp : p.block < base) (u : Value) : OwnL (w.setCell p u) base v l := ownsRow_setCell_below h hp u
theorem OwnL.weak {w : World} {base base' : Nat} {v : Value} {l : List Int} (h : OwnL w base v l) (hb : base' ≤ base) : OwnL w base' v l := by
  obtain ⟨h1, h2⟩ := h
  refine ⟨h1, ?_⟩
  rcases h2 with h2 | ⟨g, cap, cur, hv, hg, r⟩
  · exact .inl h2
  · exact .inr ⟨g, cap, cur, hv, by omega, r⟩
theorem OwnL.lat {w : World} {base : Nat} {A : Option Addr} {n c : Nat} {l : List Int} (h : OwnL w base (.slice A n c) l) : LAt w A l := by
  rcases h.2 with ⟨hv, h0⟩ | ⟨g, cap, cur, hv, hb, hh, hc, hm, hs, ht⟩
  · have hl := List.length_eq_zero_iff.1 h0
    subst hl
    exact LAt.nil _ _
  · have hA : A = some ⟨g, 0, none⟩ := by injection hv
    subst hA
    refine fun k x hx => ⟨g, 0, rfl, (Array.getElem?_eq_some_iff.1 hh).1, ?_⟩
    have hcell := World.ownsRow.cells h (g := g) rfl k (.int .u32 x) (by rw [List.getElem?_map, hx]; rfl)
    unfold Addr.add at hcell
    split at hcell
    · rename_i h0; rw [h0]; exact hcell
    · exact hcell
/-- From an owned row. -/
theorem lat_of_own {w : World} {base : Nat} {v : Value} {l : List Int} (h : OwnL w base v l) :
    ∃ A c, v = .slice A l.length c ∧ l.length ≤ c ∧ c ≤ maxLen ∧ LAt w A l := by
  rcases h.2 with ⟨hv, h0⟩ | ⟨g, cap, cur, hv, hb, hh, hc, hm, hs, ht⟩
  · have hl := List.length_eq_zero_iff.1 h0
    subst hl
    exact ⟨none, 0, hv, Nat.le_refl _, Nat.zero_le _, LAt.nil _ _⟩
  · refine ⟨some ⟨g, 0, none⟩, cap, hv, hc, hm, fun k x hx => ⟨g, 0, rfl, (Array.getElem?_eq_some_iff.1 hh).1, ?_⟩⟩
    have hcell := World.ownsRow.cells h (g := g) (by rw [hv]; rfl) k (.int .u32 x) (by rw [List.getElem?_map, hx]; rfl)
    unfold Addr.add at hcell
    split at hcell
    · rename_i h0; rw [h0]; exact hcell
    · exact hcell
theorem limbInfo : (Tryd.prog.info? 112).map (fun i => (i.zero, i.size, i.bytes)) = some (some (.int .u32 0), 1, 4) := by kernel_rfl
theorem run_append_limbs (w : World) (base : Nat) (ty : TypeId) (v : Value) (n : Nat) (xs : List Value) (hown : w.ownsRow base 112 1 v n xs)
    (A : Option Addr) (c : Nat) (l : List Int) (hA : LAt w A l) (h63 : n + l.length ≤ maxLen) (hbytes : (n + l.length) * 4 ≤ 140737488355328) (hbase : base ≤ w.heap.size) :
    ∃ v' w', (Builtin.append_ #[120, 120] ty #[v, .slice A l.length c]).run Tryd.prog w = .ok v' w' ∧ w'.ownsRow base 112 1 v' (n + l.length) (xs ++ l.map (Value.int .u32)) ∧ w.grownBy w' v.ownBlock ∧ (v'.ownBlock = v.ownBlock ∨ v'.ownBlock = some w.heap.size) := by
  obtain ⟨i, hi, hz, hs, hb⟩ := info_parts limbInfo
  by_cases h0 : l = []
  · subst h0
    cases A with
    | none =>
      refine ⟨v, w, ?_, by simpa using hown, World.grownBy.refl w _, .inl rfl⟩
      rcases hown.2 with ⟨rfl, rfl⟩ | ⟨g, cap, cur, rfl, _, _, hnc, _⟩
      · simp [Builtin.append_, run_underlying Tryd.underlying120, sizeOf, typeInfo, hi, Builtin.lenOf, Builtin.firstCells]
      · simp [Builtin.append_, run_underlying Tryd.underlying120, sizeOf, typeInfo, hi, Builtin.lenOf, Builtin.firstCells, hnc, storeCells]
    | some a =>
      obtain ⟨v', w', h1, h2, h3, _, h5⟩ := run_append_own_at (P := Tryd.prog) w base 120 ty 112 i _ 1 4 Tryd.underlying120 hi hz hs hb rfl (by decide) v n xs hown a 0 c [] (by simp) (by simp) (by simp) (by simpa using h63) (by simpa using hbytes) hbase
      exact ⟨v', w', h1, by simpa using h2, h3, h5⟩
  · obtain ⟨x, hx⟩ : ∃ x, l[0]? = some x := by
      cases l with
      | nil => exact absurd rfl h0
      | cons x l => exact ⟨x, rfl⟩
    obtain ⟨g, o, rfl, _, _⟩ := hA 0 x hx
    obtain ⟨v', w', h1, h2, h3, _, h5⟩ := run_append_own_at (P := Tryd.prog) w base 120 ty 112 i _ 1 4 Tryd.underlying120 hi hz hs hb rfl (by decide) v n xs hown ⟨g, o, none⟩ l.length c (l.map (Value.int .u32)) (by simp) (fun j u hu => by
      rw [List.getElem?_map] at hu
      obtain ⟨y, hy, rfl⟩ := Option.map_eq_some_iff.1 hu
      obtain ⟨g', o', he, _, hc⟩ := hA j y hy
      simp only [Option.some.injEq, Addr.mk.injEq] at he
      obtain ⟨rfl, rfl, _⟩ := he
      unfold Addr.add
      split
      · rename_i h; rw [h, Nat.add_zero] at hc; exact hc
      · exact hc) (fun u hu => by obtain ⟨y, _, rfl⟩ := List.mem_map.1 hu; rfl) h63 hbytes hbase
    exact ⟨v', w', h1, h2, h3, h5⟩
/-- 'append(v, x...)', v a row of the call's own (or nil), x any limbs. -/
theorem wpList_append_limbs {w : World} {ops : Array Oper} {rest : List Oper} {o : Oper} {a : Act} {Q : Exit → Act → World → Prop} (hgd : o.guard = none) (s x : Operand)
    (ho : o.op = .call { callee := .builtin .append, args := #[s, x], argTypes := #[120, 120] })
    (base : Nat) (v : Value) (xs : List Int) (hs : a.eval s = v) (hown : OwnL w base v xs)
    (A : Option Addr) (c : Nat) (l : List Int) (hx : a.eval x = .slice A l.length c) (hA : LAt w A l) (h63 : xs.length + l.length ≤ 1000000000) (hbase : base ≤ w.heap.size)
    (h : ∀ v' w', OwnL w' base v' (xs ++ l) → w.grownBy w' v.ownBlock → wpList Tryd.prog ops Q rest (a.put o.dst v') w') : wpList Tryd.prog ops Q (o :: rest) a w := by
  refine wpList_plain hgd fun K hK => ?_
  obtain ⟨v', w', hrun, h2, h3, _⟩ := run_append_limbs w base o.type v _ _ hown A c l hA (by unfold maxLen; omega) (by omega) hbase
  unfold Oper.wp execOp
  simp only [ho, resolve, invoke, builtin, Sem.run_bind, Sem.run_pure, Result.andThen_ok, List.map_toArray, List.map_cons, List.map_nil, hs, hx, hrun]
  exact hK _ _ (h v' w' (by unfold OwnL; rw [List.length_append, List.map_append]; exact h2) h3)
/-- The result of a function that hands back limbs. -/
def SlOut (m : Nat) (w : World) (e : Ending) (w' : World) : Prop := Below w.heap.size w w' ∧ ∃ A c, e = .returned (.slice A (canN m).length c) ∧ (canN m).length ≤ c ∧ LAt w' A (canN m)
/-- The same, the limbs the call's own. -/
def SlOwn (m : Nat) (w : World) (e : Ending) (w' : World) : Prop := Below w.heap.size w w' ∧ ∃ A c, e = .returned (.slice A (canN m).length c) ∧ (canN m).length ≤ c ∧ OwnL w' w.heap.size (.slice A (canN m).length c) (canN m)
theorem SlOwn.out {m : Nat} {w : World} {e : Ending} {w' : World} (h : SlOwn m w e w') : SlOut m w e w' := by
  obtain ⟨hb, A, c, h1, h2, h3⟩ := h
  exact ⟨hb, A, c, h1, h2, h3.lat⟩
/-- The canonical integer z at a value: its sign, its limbs. -/
def IsC (w : World) (v : Value) (z : Int) : Prop := ∃ A c, v = .agg #[.bool (decide (z < 0)), .slice A (canN z.natAbs).length c] ∧ (canN z.natAbs).length ≤ c ∧ LAt w A (canN z.natAbs)
/-- Any integer at a value: n limbs at most. -/
def IsZ (w : World) (v : Value) (n : Nat) (z : Int) : Prop := ∃ neg A c l, v = .agg #[.bool neg, .slice A l.length c] ∧ l.length ≤ c ∧ Lim l ∧ l.length ≤ n ∧ LAt w A l ∧ z = sv neg (mv l)
theorem IsC.below {w w1 : World} {v : Value} {z : Int} (h : IsC w v z) (hb : Below w.heap.size w w1) : IsC w1 v z := by
  obtain ⟨A, c, h1, h2, h3⟩ := h
  exact ⟨A, c, h1, h2, h3.below hb⟩
theorem IsZ.below {w w1 : World} {v : Value} {n : Nat} {z : Int} (h : IsZ w v n z) (hb : Below w.heap.size w w1) : IsZ w1 v n z := by
  obtain ⟨neg, A, c, l, h1, h2, h3, h4, h5, h6⟩ := h
  exact ⟨neg, A, c, l, h1, h2, h3, h4, h5.below hb, h6⟩
theorem IsC.z {w : World} {v : Value} {z : Int} (h : IsC w v z) (n : Nat) (hn : (z.natAbs : Int) < PB n) : IsZ w v n z := by
  obtain ⟨A, c, h1, h2, h3⟩ := h
  refine ⟨_, A, c, _, h1, h2, canN_lim _, canN_len.2 hn, h3, ?_⟩
  rw [mv_canN]
  unfold sv
  split <;> rename_i hh <;> simp at hh <;> omega
/-- The result of a function that hands back an integer. -/
def ZOut (z : Int) (w : World) (e : Ending) (w' : World) : Prop := Below w.heap.size w w' ∧ ∃ v, e = .returned v ∧ IsC w' v z
/-- The same, its limbs the call's own. -/
def ZOwn (z : Int) (w : World) (e : Ending) (w' : World) : Prop := Below w.heap.size w w' ∧ ∃ A c, e = .returned (.agg #[.bool (decide (z < 0)), .slice A (canN z.natAbs).length c]) ∧ (canN z.natAbs).length ≤ c ∧ OwnL w' w.heap.size (.slice A (canN z.natAbs).length c) (canN z.natAbs)
theorem ZOwn.out {z : Int} {w : World} {e : Ending} {w' : World} (h : ZOwn z w e w') : ZOut z w e w' := by
  obtain ⟨hb, A, c, h1, h2, h3⟩ := h
  exact ⟨hb, _, h1, A, c, rfl, h2, h3.lat⟩
theorem sv_neg_mk (neg : Bool) (l : List Int) (hl : Lim l) : ((neg && decide (0 < (canN (mv l).toNat).length)) = decide (sv neg (mv l) < 0)) ∧ (sv neg (mv l)).natAbs = (mv l).toNat := by
  have h0 := mv_nonneg hl
  have h1 := @canN_len0 (mv l).toNat
  constructor
  · cases neg
    · simp [sv]; omega
    · rw [Bool.true_and]
      apply decide_eq_decide.2
      simp only [sv, if_true]
      constructor
      · intro h
        have : (mv l).toNat ≠ 0 := fun e => by have := h1.2 e; omega
        omega
      · intro h
        rcases Nat.eq_zero_or_pos (canN (mv l).toNat).length with e | e
        · have := h1.1 e; omega
        · exact e
  · unfold sv; split <;> omega
end Go.Proofs.YteondblmcooklaaDoor
namespace Go.Proofs.YteondblmcooklaaDoor
open Go Go.RowKit
set_option linter.unusedVariables false
theorem canN_len_le {l : List Int} (hL : Lim l) : (canN (mv l).toNat).length ≤ l.length := by
  rw [canN_len]
  have h1 := mv_lt hL
  have h0 := mv_nonneg hL
  omega
set_option maxHeartbeats 1000000 in
theorem mag_own (A : Option Addr) (l : List Int) (c : Nat) (w : World) (hL : Lim l) (hA : LAt w A l) (hc : l.length ≤ c) (hn : l.length ≤ 1000000) :
    Calls Tryd.prog 69 #[.slice A l.length c] w (SlOwn (mv l).toNat w) := by
  have HL := Lib.hid hL
  have HA := Lib.hid hA
  clear hL hA
  go_enter Tryd.func69, Tryd.ntmps69; (try simp only [List.append_eq, List.cons_append, List.nil_append])
  go_wp2_with fail
  go_loop [3] (fun vn => ∃ k : Nat, k ≤ l.length ∧ vn = .int .i64 k ∧ Hid (∀ j x, l[j]? = some x → k ≤ j → x = 0)) (fun vn => (intOf vn).toNat)
  case atStart => exact ⟨l.length, Nat.le_refl _, rfl, Lib.hid (fun j x hx hj => by have := (List.getElem?_eq_some_iff.1 hx).1; omega)⟩
  case round =>
    obtain ⟨k, hk, rfl, HZ⟩ := hrel
    have fin : Hid (∀ (hz : ∀ x, 0 < k → l[k - 1]? = some x → x ≠ 0), l.take k = canN (mv l).toNat) := Lib.hid (fun hz => canN_take HL.out hk HZ.out hz)
    rcases k with _ | j
    · have hfin := fin.out (fun x h _ => absurd h (by omega))
      rw [List.take_zero] at hfin
      have HF := Lib.hid hfin
      clear hfin fin
      go_wp2_with (at_builtin; go_must (refine wpList_append_limbs rfl _ _ rfl w.heap.size (.slice none 0 0) [] rfl (OwnL.nil _ _) A c [] rfl (LAt.nil _ _) (by simp) (Nat.le_refl _) ?_))
      intro v1 w1 hown hg1
      have hb1 : Below w.heap.size w w1 := (Below.refl _ _).grown hg1 (Nat.le_refl _) (by simp [Value.ownBlock])
      obtain ⟨A1, c1, rfl, hc1, _, hA1⟩ := lat_of_own hown
      have hA1 := Lib.hid hown
      clear hown hg1
      go_wp2_with fail
      go_ret
      exact ⟨hb1, A1, c1, by rw [← HF.out]; rfl, by rw [← HF.out]; exact hc1, by rw [← HF.out]; exact hA1.out⟩
    · obtain ⟨x, hx⟩ : ∃ x, l[j]? = some x := ⟨l[j], by simp⟩
      obtain ⟨g, o, rfl, hg, hcell⟩ := HA.out j x hx
      have HX := Lib.hid hx
      have i1 : (0 : Int) ≤ (j : Int) := by omega
      have i2 : (j : Int) < (l.length : Int) := by omega
      have i3 : (0 : Int) < (j : Int) + 1 := by omega
      have i4 : (l.length : Int) ≤ 1000000 := by omega
      clear hx
      by_cases h0 : x = 0
      · subst h0
        clear fin
        go_wp2_with fail
        go_round
        case rel =>
          refine ⟨j, by omega, rfl, Lib.hid (fun i y hy hj => ?_)⟩
          rcases Nat.lt_or_ge i (j + 1) with h | h
          · obtain rfl : i = j := by omega
            have := HX.out
            rw [hy] at this
            exact Option.some.inj this
          · exact HZ.out i y hy h
        case measure => simp [intOf]
      · have hne : (x == 0) = false := by simp [h0]
        have hfin := fin.out (fun y _ hy => by
          rw [Nat.add_sub_cancel, HX.out] at hy
          rw [← Option.some.inj hy]; exact h0)
        have HF := Lib.hid hfin
        have hlt : (l.take (j + 1)).length = j + 1 := by rw [List.length_take]; omega
        have HT := Lib.hid hlt
        have hAt := HA.out.take (j + 1)
        have HAt := Lib.hid hAt
        clear hfin fin hlt hAt h0
        go_wp2_with (at_builtin; go_must (refine wpList_append_limbs rfl _ _ rfl w.heap.size (.slice none 0 0) [] rfl (OwnL.nil _ _) (some ⟨g, o, none⟩) c (l.take (j + 1)) (by rw [HT.out]; rfl) HAt.out (by rw [HT.out, List.length_nil]; omega) (Nat.le_refl _) ?_))
        intro v1 w1 hown hg1
        have hb1 : Below w.heap.size w w1 := (Below.refl _ _).grown hg1 (Nat.le_refl _) (by simp [Value.ownBlock])
        obtain ⟨A1, c1, rfl, hc1, _, hA1⟩ := lat_of_own hown
        have HA1 := Lib.hid hown
        have HC1 := Lib.hid hc1
        clear hown hg1 hA1 hc1
        go_wp2_with fail
        go_ret
        exact ⟨hb1, A1, c1, by rw [← HF.out]; rfl, by rw [← HF.out]; exact HC1.out, by rw [← HF.out]; exact HA1.out⟩
theorem mag_any (A : Option Addr) (l : List Int) (c : Nat) (w : World) (hL : Lim l) (hA : LAt w A l) (hc : l.length ≤ c) (hn : l.length ≤ 1000000) :
    Calls Tryd.prog 69 #[.slice A l.length c] w (SlOut (mv l).toNat w) := (mag_own A l c w hL hA hc hn).mono fun _ _ h => h.out
set_option maxHeartbeats 1000000 in
theorem make1_own (neg : Bool) (A : Option Addr) (l : List Int) (c : Nat) (w : World) (hL : Lim l) (hA : LAt w A l) (hc : l.length ≤ c) (hn : l.length ≤ 1000000) :
    Calls Tryd.prog 72 #[.bool neg, .slice A l.length c] w (ZOwn (sv neg (mv l)) w) := by
  obtain ⟨hs1, hs2⟩ := sv_neg_mk neg l hL
  have hm := fun w hA => mag_own A l c w hL hA hc hn
  obtain ⟨Z, hZ⟩ : ∃ Z, Z = sv neg (mv l) := ⟨_, rfl⟩
  obtain ⟨m, hmm⟩ : ∃ m, m = (mv l).toNat := ⟨_, rfl⟩
  rw [← hZ, ← hmm] at hs1
  rw [← hZ, ← hmm] at hs2
  rw [← hmm] at hm
  rw [← hZ]
  have HM := Lib.hid hm
  have H1 := Lib.hid hs1
  have H2 := Lib.hid hs2
  have HA := Lib.hid hA
  clear hm hs1 hs2 hA hZ hmm
  cases neg
  · go_enter Tryd.func72, Tryd.ntmps72; (try simp only [List.append_eq, List.cons_append, List.nil_append])
    go_wp2_with fail
    -- own blocks: w.heap.size:2
    (go_at_call 69; refine (HM.out _ (HA.out.alloc _)).mono ?_; rintro e w1 ⟨hb_w1, A1, c1, rfl, hc1, hA1⟩; have hz_w1 := hb_w1.size; (try simp at hz_w1); (with_reducible apply cel2 (b := w.heap.size) hb_w1); (focus ((try simp) <;> omega)); (focus omega); (focus (go_simp; try exact rfl)); (focus (go_simp; try exact rfl)); (focus (intro o; go_simp)); intro cc cc fz hl)
    have HC := Lib.hid hc1
    have HA1 := Lib.hid hA1
    clear hc1 hA1
    go_wp2_with fail
    refine bodyPost_ret (v := .agg #[.bool false, .slice A1 (canN m).length c1]) (by simp only [results, Tryd.results72]; go_simp) rfl ⟨?_, ?_⟩
    · ((with_reducible (repeat (first | exact bR _ _ | refine bS ?_ ?_ _ | refine bA ?_ ?_ _ | refine bD ?_ | refine bT ?_ (by assumption) ?_ | refine bO (by assumption) ?_ ?_))) <;> (first | omega | (simp; done) | (simp <;> omega)))
    · have hh := H2.out
      have h1 := H1.out
      subst hh
      exact ⟨A1, c1, by rw [← h1]; rfl, HC.out, ((HA1.out.setCell (by simp) _).setCell (by simp) _).weak (by simp)⟩
  · go_enter Tryd.func72, Tryd.ntmps72; (try simp only [List.append_eq, List.cons_append, List.nil_append])
    go_wp2_with fail
    -- own blocks: w.heap.size:2
    (go_at_call 69; refine (HM.out _ (HA.out.alloc _)).mono ?_; rintro e w1 ⟨hb_w1, A1, c1, rfl, hc1, hA1⟩; have hz_w1 := hb_w1.size; (try simp at hz_w1); (with_reducible apply cel2 (b := w.heap.size) hb_w1); (focus ((try simp) <;> omega)); (focus omega); (focus (go_simp; try exact rfl)); (focus (go_simp; try exact rfl)); (focus (intro o; go_simp)); intro cc cc fz hl)
    have HC := Lib.hid hc1
    have HA1 := Lib.hid hA1
    clear hc1 hA1
    go_wp2_with fail
    refine bodyPost_ret (v := .agg #[.bool (decide (0 < (canN m).length)), .slice A1 (canN m).length c1]) (by simp only [results, Tryd.results72]; go_simp) rfl ⟨?_, ?_⟩
    · ((with_reducible (repeat (first | exact bR _ _ | refine bS ?_ ?_ _ | refine bA ?_ ?_ _ | refine bD ?_ | refine bT ?_ (by assumption) ?_ | refine bO (by assumption) ?_ ?_))) <;> (first | omega | (simp; done) | (simp <;> omega)))
    · have hh := H2.out
      have h1 := H1.out
      subst hh
      exact ⟨A1, c1, by rw [← h1]; rfl, HC.out, ((HA1.out.setCell (by simp) _).setCell (by simp) _).weak (by simp)⟩
theorem make1_any (neg : Bool) (A : Option Addr) (l : List Int) (c : Nat) (w : World) (hL : Lim l) (hA : LAt w A l) (hc : l.length ≤ c) (hn : l.length ≤ 1000000) :
    Calls Tryd.prog 72 #[.bool neg, .slice A l.length c] w (ZOut (sv neg (mv l)) w) := (make1_own neg A l c w hL hA hc hn).mono fun _ _ h => h.out
end Go.Proofs.YteondblmcooklaaDoor
namespace Go.Proofs.YteondblmcooklaaDoor
open Go Go.RowKit
set_option linter.unusedVariables false
theorem lat_two {w : World} {b : Nat} {x y : Int} (hb : b < w.heap.size) (h0 : w.cell? ⟨b, 0, none⟩ = some (.int .u32 x)) (h1 : w.cell? ⟨b, 1, none⟩ = some (.int .u32 y)) : LAt w (some ⟨b, 0, none⟩) [x, y] := by
  intro k z hz
  refine ⟨b, 0, rfl, hb, ?_⟩
  rcases k with _ | _ | k
  · simp at hz; subst hz; exact h0
  · simp at hz; subst hz; exact h1
  · simp at hz
theorem lat_one {w : World} {b : Nat} {x : Int} (hb : b < w.heap.size) (h0 : w.cell? ⟨b, 0, none⟩ = some (.int .u32 x)) : LAt w (some ⟨b, 0, none⟩) [x] := by
  intro k z hz
  refine ⟨b, 0, rfl, hb, ?_⟩
  rcases k with _ | k
  · simp at hz; subst hz; exact h0
  · simp at hz
theorem make1_two (neg : Bool) (b : Nat) (x y z : Int) (w : World) (hb : b < w.heap.size) (h0 : w.cell? ⟨b, 0, none⟩ = some (.int .u32 x)) (h1 : w.cell? ⟨b, 1, none⟩ = some (.int .u32 y))
    (x0 : 0 ≤ x) (x1 : x < 4294967296) (y0 : 0 ≤ y) (y1 : y < 4294967296) (hz : z = sv neg (x + 4294967296 * y)) :
    Calls Tryd.prog 72 #[.bool neg, .slice (some ⟨b, 0, none⟩) 2 2] w (ZOut z w) := by
  have := make1_any neg (some ⟨b, 0, none⟩) [x, y] 2 w (Lim.cons x0 x1 (Lim.cons y0 y1 Lim.nil)) (lat_two hb h0 h1) (by simp) (by simp)
  rw [mv_two, ← hz] at this
  exact this
set_option maxHeartbeats 1000000 in
theorem of_any (n : Int) (w : World) (h1 : -9223372036854775808 ≤ n) (h2 : n ≤ 9223372036854775807) :
    Calls Tryd.prog 61 #[.int .i64 n] w (ZOut n w) := by
  rcases Int.lt_or_le n 0 with h | h
  · have e1 : IntKind.u64.wrap (-IntKind.u64.wrap n) = -n := by rw [IntKind.wrap_u64, IntKind.wrap_u64]; omega
    go_enter Tryd.func61, Tryd.ntmps61; (try simp only [List.append_eq, List.cons_append, List.nil_append])
    go_wp2_with fail
    clear e1
    -- own blocks: w.heap.size:2
    (go_at_call 72; refine (make1_two _ _ (-n % 4294967296) (-n / 4294967296) n _ (by simp) (by go_simp) (by go_simp) (by omega) (by omega) (by omega) (by omega) (by unfold sv; rw [if_pos rfl]; omega)).mono ?_; rintro e w1 ⟨hb_w1, v1, rfl, hv1⟩; have hz_w1 := hb_w1.size; (try simp at hz_w1); (with_reducible apply cel2 (b := w.heap.size) hb_w1); (focus ((try simp) <;> omega)); (focus omega); (focus (go_simp; try exact rfl)); (focus (go_simp; try exact rfl)); (focus (intro o; go_simp)); intro cc cc fz hl)
    obtain ⟨A1, c1, rfl, hc1, hA1⟩ := hv1
    have HC := Lib.hid hc1
    have HA1 := Lib.hid hA1
    clear hc1 hA1
    go_wp2_with fail
    refine bodyPost_ret (v := .agg #[.bool (decide (n < 0)), .slice A1 (canN n.natAbs).length c1]) (by simp only [results, Tryd.results61]; go_simp) rfl ⟨?_, ?_⟩
    · ((with_reducible (repeat (first | exact bR _ _ | refine bS ?_ ?_ _ | refine bA ?_ ?_ _ | refine bD ?_ | refine bT ?_ (by assumption) ?_ | refine bO (by assumption) ?_ ?_))) <;> (first | omega | (simp; done) | (simp <;> omega)))
    · exact ⟨_, rfl, A1, c1, rfl, HC.out, HA1.out.set2 (by assumption) (by assumption) _ _⟩
  · have hn : ¬ n < 0 := by omega
    go_enter Tryd.func61, Tryd.ntmps61; (try simp only [List.append_eq, List.cons_append, List.nil_append])
    go_wp2_with fail
    -- own blocks: w.heap.size:2
    (go_at_call 72; refine (make1_two _ _ (n % 4294967296) (n / 4294967296) n _ (by simp) (by go_simp) (by go_simp) (by omega) (by omega) (by omega) (by omega) (by unfold sv; rw [if_neg (by simp)]; omega)).mono ?_; rintro e w1 ⟨hb_w1, v1, rfl, hv1⟩; have hz_w1 := hb_w1.size; (try simp at hz_w1); (with_reducible apply cel2 (b := w.heap.size) hb_w1); (focus ((try simp) <;> omega)); (focus omega); (focus (go_simp; try exact rfl)); (focus (go_simp; try exact rfl)); (focus (intro o; go_simp)); intro cc cc fz hl)
    obtain ⟨A1, c1, rfl, hc1, hA1⟩ := hv1
    have HC := Lib.hid hc1
    have HA1 := Lib.hid hA1
    clear hc1 hA1
    go_wp2_with fail
    refine bodyPost_ret (v := .agg #[.bool (decide (n < 0)), .slice A1 (canN n.natAbs).length c1]) (by simp only [results, Tryd.results61]; go_simp) rfl ⟨?_, ?_⟩
    · ((with_reducible (repeat (first | exact bR _ _ | refine bS ?_ ?_ _ | refine bA ?_ ?_ _ | refine bD ?_ | refine bT ?_ (by assumption) ?_ | refine bO (by assumption) ?_ ?_))) <;> (first | omega | (simp; done) | (simp <;> omega)))
    · exact ⟨_, rfl, A1, c1, rfl, HC.out, HA1.out.set2 (by assumption) (by assumption) _ _⟩
def sgn (z : Int) : Int := if z = 0 then 0 else if z < 0 then -1 else 1
set_option maxHeartbeats 1000000 in
theorem sign_any (n : Nat) (v : Value) (z : Int) (w : World) (h : IsZ w v n z) (hn : n ≤ 1000000) :
    Calls Tryd.prog 71 #[v] w fun e w' => e = .returned (.int .i64 (sgn z)) ∧ Below w.heap.size w w' := by
  obtain ⟨neg, A, c, l, rfl, hc, hL, hl, hA, rfl⟩ := h
  have hm := fun w hA => mag_any A l c w hL hA hc (by omega)
  have hv0 := mv_nonneg hL
  have h00 := @canN_len0 (mv l).toNat
  have HM := Lib.hid hm
  have HA := Lib.hid hA
  obtain ⟨m, hmm⟩ : ∃ m, m = (mv l).toNat := ⟨_, rfl⟩
  rw [← hmm] at h00 hm
  have HM := Lib.hid hm
  by_cases h0 : (canN m).length = 0
  · have h1 : mv l = 0 := by have := h00.1 h0; omega
    have e : sgn (sv neg (mv l)) = 0 := by rw [h1]; cases neg <;> rfl
    rw [e]
    have e0 : (((canN m).length : Int) == 0) = true := by rw [h0]; rfl
    clear hm hA e h1 h0 h00 hmm hv0
    go_enter Tryd.func71, Tryd.ntmps71; (try simp only [List.append_eq, List.cons_append, List.nil_append])
    go_wp2_with fail
    -- own blocks: w.heap.size:2
    (go_at_call 69; refine (HM.out _ (HA.out.alloc _)).mono ?_; rintro e w1 ⟨hb_w1, A1, c1, rfl, hc1, hA1⟩; have hz_w1 := hb_w1.size; (try simp at hz_w1); (with_reducible apply cel2 (b := w.heap.size) hb_w1); (focus ((try simp) <;> omega)); (focus omega); (focus (go_simp; try exact rfl)); (focus (go_simp; try exact rfl)); (focus (intro o; go_simp)); intro cc cc fz hl)
    clear hc1 hA1
    go_wp2_with fail
    go_ret
    exact ⟨rfl, by ((with_reducible (repeat (first | exact bR _ _ | refine bS ?_ ?_ _ | refine bA ?_ ?_ _ | refine bD ?_ | refine bT ?_ (by assumption) ?_ | refine bO (by assumption) ?_ ?_))) <;> (first | omega | (simp; done) | (simp <;> omega)))⟩
  · have h1 : mv l ≠ 0 := fun e => h0 (h00.2 (by omega))
    have e : sgn (sv neg (mv l)) = if neg = true then -1 else 1 := by
      have hp : 0 < mv l := by omega
      cases neg
      · show sgn (mv l) = 1; unfold sgn; rw [if_neg (by omega), if_neg (by omega)]
      · show sgn (-(mv l)) = -1; unfold sgn; rw [if_neg (by omega), if_pos (by omega)]
    rw [e]
    have e0 : (((canN m).length : Int) == 0) = false := by rw [beq_eq_false_iff_ne]; omega
    clear hm hA e h1 h0 h00 hmm hv0
    cases neg
    all_goals
      go_enter Tryd.func71, Tryd.ntmps71; (try simp only [List.append_eq, List.cons_append, List.nil_append])
      go_wp2_with fail
      -- own blocks: w.heap.size:2
      (go_at_call 69; refine (HM.out _ (HA.out.alloc _)).mono ?_; rintro e w1 ⟨hb_w1, A1, c1, rfl, hc1, hA1⟩; have hz_w1 := hb_w1.size; (try simp at hz_w1); (with_reducible apply cel2 (b := w.heap.size) hb_w1); (focus ((try simp) <;> omega)); (focus omega); (focus (go_simp; try exact rfl)); (focus (go_simp; try exact rfl)); (focus (intro o; go_simp)); intro cc cc fz hl)
      clear hc1 hA1
      go_wp2_with fail
      go_ret
      exact ⟨rfl, by ((with_reducible (repeat (first | exact bR _ _ | refine bS ?_ ?_ _ | refine bA ?_ ?_ _ | refine bD ?_ | refine bT ?_ (by assumption) ?_ | refine bO (by assumption) ?_ ?_))) <;> (first | omega | (simp; done) | (simp <;> omega)))⟩
theorem canN_lt {x y : Nat} (h : (canN x).length < (canN y).length) : x < y := by
  rcases Nat.lt_or_ge x y with h1 | h1
  · exact h1
  · have h2 : (y : Int) < PB (canN x).length := by
      have h3 := (@canN_len x (canN x).length).1 (Nat.le_refl _)
      omega
    have := (@canN_len y (canN x).length).2 h2
    omega
theorem mv_lt_of {l1 l2 : List Int} (h1 : Lim l1) (h2 : Lim l2) (hl : l1.length = l2.length) {j : Nat} {x y : Int} (hx : l1[j]? = some x) (hy : l2[j]? = some y) (hd : l1.drop (j + 1) = l2.drop (j + 1)) (hxy : x < y) : mv l1 < mv l2 := by
  have hj := (List.getElem?_eq_some_iff.1 hx).1
  have a1 := mv_split l1 j (by omega)
  have a2 := mv_split l2 j (by omega)
  have b1 := mv_drop_succ hx
  have b2 := mv_drop_succ hy
  have c1 := mv_lt (h1.take j)
  have c2 := mv_nonneg (h2.take j)
  rw [List.length_take, Nat.min_eq_left (by omega)] at c1
  rw [hd] at b1
  have hp := PB_pos j
  have : PB j * (mv (l1.drop j) + 1) ≤ PB j * mv (l2.drop j) := Int.mul_le_mul_of_nonneg_left (by omega) (by omega)
  rw [Int.mul_add] at this
  omega
def cmpI (a b : Int) : Int := if a < b then -1 else if b < a then 1 else 0
theorem cmpI_lt {a b : Int} (h : a < b) : cmpI a b = -1 := if_pos h
theorem cmpI_gt {a b : Int} (h : b < a) : cmpI a b = 1 := by unfold cmpI; rw [if_neg (by omega), if_pos h]
theorem cmpI_self (a : Int) : cmpI a a = 0 := by unfold cmpI; rw [if_neg (by omega), if_neg (by omega)]
set_option maxHeartbeats 1000000 in
theorem cmpmag_same (A B : Option Addr) (l1 l2 : List Int) (c d : Nat) (w : World) (h1 : Lim l1) (h2 : Lim l2) (hl : l1.length = l2.length) (hn : l1.length ≤ 1000000) (hA : LAt w A l1) (hB : LAt w B l2) :
    Calls Tryd.prog 78 #[.slice A l1.length c, .slice B l2.length d] w fun e w' => e = .returned (.int .i64 (cmpI (mv l1) (mv l2))) ∧ Below w.heap.size w w' := by
  obtain ⟨R, hR⟩ : ∃ R, R = cmpI (mv l1) (mv l2) := ⟨_, rfl⟩
  rw [← hR]
  have HR := Lib.hid hR
  have HA := Lib.hid hA
  have HB := Lib.hid hB
  have HLI := Lib.hid h1
  have HL2 := Lib.hid h2
  rw [← hl]
  have HL := Lib.hid hl
  clear hR hA hB h1 h2 hl
  go_enter Tryd.func78, Tryd.ntmps78; (try simp only [List.append_eq, List.cons_append, List.nil_append])
  go_wp2_with fail
  go_loopw [5] (fun vi wr => ∃ k : Nat, k ≤ l1.length ∧ vi = .int .i64 ((k : Int) - 1) ∧ Hid (l1.drop k = l2.drop k) ∧ Below w.heap.size w wr) (fun vi _ => (intOf vi + 1).toNat)
  case atStart => exact ⟨l1.length, Nat.le_refl _, rfl, Lib.hid (by rw [List.drop_length, HL.out, List.drop_length]), Below.refl _ _⟩
  case round =>
    obtain ⟨k, hk, rfl, HD, hbel⟩ := hrel
    rcases k with _ | j
    · have hfin : R = 0 := by
        have := HD.out
        rw [List.drop_zero, List.drop_zero] at this
        rw [HR.out, this]; exact cmpI_self _
      subst hfin
      go_wp2_with fail
      go_ret
      exact ⟨rfl, hbel⟩
    · obtain ⟨x, hx⟩ : ∃ x, l1[j]? = some x := ⟨l1[j], by simp⟩
      obtain ⟨y, hy⟩ : ∃ y, l2[j]? = some y := ⟨l2[j]'(by have := HL.out; omega), by simp⟩
      obtain ⟨g, o, rfl, hg, hc1⟩ := HA.out.below hbel j x hx
      obtain ⟨g', o', rfl, hg', hc2⟩ := HB.out.below hbel j y hy
      have HX := Lib.hid hx
      have HY := Lib.hid hy
      have HB1 := Lib.hid hbel
      have i1 : (0 : Int) ≤ (j : Int) := by omega
      have i2 : (j : Int) < (l1.length : Int) := by omega
      have i3 : (l1.length : Int) ≤ 1000000 := by omega
      have hz := hbel.size
      clear hx hy hbel
      by_cases hxy : x = y
      · subst hxy
        have b1 : (x != x) = false := by simp
        go_wp2_with fail
        refine wp_region_warm (Own wr.heap.size wr) (by kernel_rfl) (by kernel_rfl) (Own.refl (Nat.le_refl _)).drew ?_
        repeat (first | (refine wpWarm_step_off rfl (fun K hK => ?_); (go_simp; refine hK _ ?_; clear hK K)) | (apply wpWarm_step rfl; (focus (intro W' hS; have hcS := hS.cells.1; have hfS := hS.cells.2; go_simp; (first | done | exact rfl | exact ⟨rfl, hS⟩ | (go_simp; exact rfl)))); (intro K hK; go_simp; (try go_bits); refine hK _ ?_; clear hK K)) | (apply wpWarm_step_on rfl; (focus (intro W' hS; have hcS := hS.cells.1; have hfS := hS.cells.2; go_simp; (first | done | exact rfl | exact ⟨rfl, hS⟩ | (go_simp; exact rfl)))); (intro K hK; go_simp; (try go_bits); refine hK _ ?_; clear hK K)))
        refine wpWarm_nil ?_
        intro w4 hO
        go_wp2_with fail
        go_roundw
        case rel => exact ⟨j, by omega, rfl, Lib.hid (by rw [drop_consI HX.out, drop_consI HY.out, HD.out]), HB1.out.trans (hO.2.mono hz)⟩
        case measure => simp [intOf]
      · have b1 : (x != y) = true := by simp [hxy]
        have hlt : x < y → R = -1 := fun h => by rw [HR.out]; exact cmpI_lt (mv_lt_of HLI.out HL2.out HL.out HX.out HY.out HD.out h)
        have hgt : y < x → R = 1 := fun h => by rw [HR.out]; exact cmpI_gt (mv_lt_of HL2.out HLI.out HL.out.symm HY.out HX.out HD.out.symm h)
        have HLT := Lib.hid hlt
        have HGT := Lib.hid hgt
        have HNE := Lib.hid hxy
        clear hlt hgt hxy
        go_wp2_with fail
        refine wp_region_warm (Own wr.heap.size wr) (by kernel_rfl) (by kernel_rfl) (Own.refl (Nat.le_refl _)).drew ?_
        repeat (first | (refine wpWarm_step_off rfl (fun K hK => ?_); (go_simp; refine hK _ ?_; clear hK K)) | (apply wpWarm_step rfl; (focus (intro W' hS; have hcS := hS.cells.1; have hfS := hS.cells.2; go_simp; (first | done | exact rfl | exact ⟨rfl, hS⟩ | (go_simp; exact rfl)))); (intro K hK; go_simp; (try go_bits); refine hK _ ?_; clear hK K)) | (apply wpWarm_step_on rfl; (focus (intro W' hS; have hcS := hS.cells.1; have hfS := hS.cells.2; go_simp; (first | done | exact rfl | exact ⟨rfl, hS⟩ | (go_simp; exact rfl)))); (intro K hK; go_simp; (try go_bits); refine hK _ ?_; clear hK K)))
        refine wpWarm_nil ?_
        intro w4 hO
        have HB4 := Lib.hid (HB1.out.trans (hO.2.mono hz))
        have d1 : w4.cell? ⟨g, o + j, none⟩ = some (.int .u32 x) := by rw [hO.cells.1 g _ hg]; exact hc1
        have d2 : w4.cell? ⟨g', o' + j, none⟩ = some (.int .u32 y) := by rw [hO.cells.1 g' _ hg']; exact hc2
        have hg4 : g < w4.heap.size := Nat.lt_of_lt_of_le hg hO.1
        have hg4' : g' < w4.heap.size := Nat.lt_of_lt_of_le hg' hO.1
        have hz4 := HB4.out.size
        clear hc1 hc2 hO
        by_cases hlt : x < y
        · have hR := HLT.out hlt
          subst hR
          go_wp2_with fail
          refine wp_region_warm (Own w4.heap.size w4) (by kernel_rfl) (by kernel_rfl) (Own.refl (Nat.le_refl _)).drew ?_
          repeat (first | (refine wpWarm_step_off rfl (fun K hK => ?_); (go_simp; refine hK _ ?_; clear hK K)) | (apply wpWarm_step rfl; (focus (intro W' hS; have hcS := hS.cells.1; have hfS := hS.cells.2; go_simp; (first | done | exact rfl | exact ⟨rfl, hS⟩ | (go_simp; exact rfl)))); (intro K hK; go_simp; (try go_bits); refine hK _ ?_; clear hK K)) | (apply wpWarm_step_on rfl; (focus (intro W' hS; have hcS := hS.cells.1; have hfS := hS.cells.2; go_simp; (first | done | exact rfl | exact ⟨rfl, hS⟩ | (go_simp; exact rfl)))); (intro K hK; go_simp; (try go_bits); refine hK _ ?_; clear hK K)))
          refine wpWarm_nil ?_
          intro w5 hO
          go_wp2_with fail
          go_ret
          exact ⟨rfl, HB4.out.trans (hO.2.mono hz4)⟩
        · have hR := HGT.out (by have := HNE.out; omega)
          subst hR
          go_wp2_with fail
          refine wp_region_warm (Own w4.heap.size w4) (by kernel_rfl) (by kernel_rfl) (Own.refl (Nat.le_refl _)).drew ?_
          repeat (first | (refine wpWarm_step_off rfl (fun K hK => ?_); (go_simp; refine hK _ ?_; clear hK K)) | (apply wpWarm_step rfl; (focus (intro W' hS; have hcS := hS.cells.1; have hfS := hS.cells.2; go_simp; (first | done | exact rfl | exact ⟨rfl, hS⟩ | (go_simp; exact rfl)))); (intro K hK; go_simp; (try go_bits); refine hK _ ?_; clear hK K)) | (apply wpWarm_step_on rfl; (focus (intro W' hS; have hcS := hS.cells.1; have hfS := hS.cells.2; go_simp; (first | done | exact rfl | exact ⟨rfl, hS⟩ | (go_simp; exact rfl)))); (intro K hK; go_simp; (try go_bits); refine hK _ ?_; clear hK K)))
          refine wpWarm_nil ?_
          intro w5 hO
          go_wp2_with fail
          go_ret
          exact ⟨rfl, HB4.out.trans (hO.2.mono hz4)⟩
end Go.Proofs.YteondblmcooklaaDoor
namespace Go.Proofs.YteondblmcooklaaDoor
open Go Go.RowKit
set_option linter.unusedVariables false
set_option maxHeartbeats 1000000 in
theorem cmpmag_any (A B : Option Addr) (x y c d : Nat) (w : World) (hn : (canN x).length ≤ 1000000) (hn' : (canN y).length ≤ 1000000) (hA : LAt w A (canN x)) (hB : LAt w B (canN y)) :
    Calls Tryd.prog 78 #[.slice A (canN x).length c, .slice B (canN y).length d] w fun e w' => e = .returned (.int .i64 (cmpI x y)) ∧ Below w.heap.size w w' := by
  by_cases hl : (canN x).length = (canN y).length
  · have := cmpmag_same A B (canN x) (canN y) c d w (canN_lim _) (canN_lim _) hl hn hA hB
    rw [mv_canN, mv_canN] at this
    exact this
  · have hne : (((canN x).length : Int) != ((canN y).length : Int)) = true := by rw [bne_iff_ne]; omega
    clear hA hB
    rcases Nat.lt_or_ge (canN x).length (canN y).length with h | h
    · have hR : cmpI x y = -1 := cmpI_lt (by have := canN_lt h; omega)
      rw [hR]
      have h' : ((canN x).length : Int) < ((canN y).length : Int) := by omega
      clear hR hl
      go_enter Tryd.func78, Tryd.ntmps78; (try simp only [List.append_eq, List.cons_append, List.nil_append])
      go_wp2_with fail
      go_ret
      exact ⟨rfl, Below.refl _ _⟩
    · have hR : cmpI x y = 1 := cmpI_gt (by have := canN_lt (show (canN y).length < (canN x).length by omega); omega)
      rw [hR]
      have h' : ¬ ((canN x).length : Int) < ((canN y).length : Int) := by omega
      clear hR hl
      go_enter Tryd.func78, Tryd.ntmps78; (try simp only [List.append_eq, List.cons_append, List.nil_append])
      go_wp2_with fail
      go_ret
      exact ⟨rfl, Below.refl _ _⟩
end Go.Proofs.YteondblmcooklaaDoor
namespace Go.Proofs.YteondblmcooklaaDoor
open Go Go.RowKit
set_option linter.unusedVariables false
/-- The block g holds these limbs, and no others. -/
def RowL (w : World) (g : Nat) (l : List Int) : Prop := w.rowIs g 112 l.length (fun i => .int .u32 (l.getD i 0))
theorem RowL.lt {w : World} {g : Nat} {l : List Int} (h : RowL w g l) : g < w.heap.size := World.rowIs.lt h
theorem RowL.cell {w : World} {g : Nat} {l : List Int} (h : RowL w g l) {i : Nat} {x : Int} (hx : l[i]? = some x) : w.cell? ⟨g, i, none⟩ = some (.int .u32 x) := by
  have hi := (List.getElem?_eq_some_iff.1 hx).1
  have h1 := World.rowIs.cell h hi
  rw [h1, List.getD_eq_getElem?_getD, hx]
  rfl
theorem RowL.frozen {w : World} {g : Nat} {l : List Int} (h : RowL w g l) : ∀ o, w.frozen? ⟨g, o, none⟩ = false := fun o => World.rowIs.frozen h o
theorem RowL.set {w : World} {g : Nat} {l : List Int} (h : RowL w g l) (i : Nat) (x : Int) : RowL (w.setCell ⟨g, i, none⟩ (.int .u32 x)) g (l.set i x) := by
  have h1 := World.rowIs.set h i (.int .u32 x)
  unfold RowL
  rw [List.length_set]
  refine World.rowIs.congr h1 (fun j hj => ?_)
  by_cases e : j = i
  · subst e
    simp [List.getD_eq_getElem?_getD, hj]
  · rw [if_neg e, List.getD_eq_getElem?_getD, List.getD_eq_getElem?_getD, List.getElem?_set, if_neg (fun h => e h.symm)]
theorem RowL.below {w w1 : World} {g : Nat} {l : List Int} (h : RowL w g l) (hb : Below w.heap.size w w1) : RowL w1 g l := World.rowIs.of_block h (hb.block g h.lt)
theorem RowL.lat {w : World} {g : Nat} {l : List Int} (h : RowL w g l) : LAt w (some ⟨g, 0, none⟩) l := fun k x hx => ⟨g, 0, rfl, h.lt, by rw [Nat.zero_add]; exact h.cell hx⟩
theorem RowL.made (w : World) (n : Nat) : RowL (w.alloc (.cells (madeCells #[.int .u32 0] n) 112)) w.heap.size (List.replicate n 0) := by
  have h := World.rowIs_made w (.int .u32 0) n 112
  unfold RowL
  rw [List.length_replicate]
  refine World.rowIs.congr h (fun i hi => ?_)
  simp [List.getD_eq_getElem?_getD, hi]
end Go.Proofs.YteondblmcooklaaDoor
namespace Go.Proofs.YteondblmcooklaaDoor
open Go Go.RowKit
set_option linter.unusedVariables false
theorem isZ_open {w : World} {v : Value} {n : Nat} {z : Int} (h : IsZ w v n z) : ∃ neg A c l, v = .agg #[.bool neg, .slice A l.length c] ∧ l.length ≤ c ∧ Lim l ∧ l.length ≤ n ∧ LAt w A l ∧ z = sv neg (z.natAbs : Int) ∧ (mv l).toNat = z.natAbs ∧ (canN z.natAbs).length ≤ n := by
  obtain ⟨neg, A, c, l, h1, h2, h3, h4, h5, h6⟩ := h
  have h7 := (sv_neg_mk neg l h3).2
  have h8 := canN_len_le h3
  have h0 := mv_nonneg h3
  refine ⟨neg, A, c, l, h1, h2, h3, h4, h5, ?_, by rw [h6, h7], by rw [h6, h7]; omega⟩
  rw [h6, h7]
  rw [Int.toNat_of_nonneg h0]
end Go.Proofs.YteondblmcooklaaDoor
namespace Go.Proofs.YteondblmcooklaaDoor
open Go Go.RowKit
set_option linter.unusedVariables false
theorem IsC.zl {w : World} {v : Value} {z : Int} (h : IsC w v z) {n : Nat} (hn : (canN z.natAbs).length ≤ n) : IsZ w v n z := h.z n (canN_len.1 hn)
end Go.Proofs.YteondblmcooklaaDoor
namespace Go.Proofs.YteondblmcooklaaDoor
open Go Go.RowKit
set_option linter.unusedVariables false
theorem madeCells_list (W : Nat) : (madeCells #[Value.int .u32 0] W).toList = (List.replicate W 0).map (Value.int .u32) := by
  apply List.ext_getElem?
  intro i
  simp [madeCells, Nat.mod_one]
  rcases Nat.lt_or_ge i W with h | h
  · simp [h]
  · simp [Nat.not_lt.2 h]
theorem OwnL.made {w : World} {base : Nat} (W : Nat) (hb : base ≤ w.heap.size) (hW : W ≤ 1000000000) : OwnL (w.alloc (.cells (madeCells #[.int .u32 0] W) 112)) base (.slice (some ⟨w.heap.size, 0, none⟩) W W) (List.replicate W 0) := by
  have h2 : (madeCells #[Value.int .u32 0] W).size = W * 1 := by rw [size_madeCells, Nat.mul_one]
  refine ⟨by simp, .inr ⟨w.heap.size, W, madeCells #[.int .u32 0] W, by simp, hb, heap_alloc_new w _, by simp, by unfold maxLen; omega, h2, ?_⟩⟩
  rw [List.length_replicate, Nat.mul_one, List.take_of_length_le (by rw [Array.length_toList, size_madeCells]; exact Nat.le_refl _)]
  exact madeCells_list W
theorem wraps_u64' (n : Int) (h₀ : 0 ≤ n) (h₁ : n < 2 ^ 64) : IntKind.u64.wrap n = n := by rw [IntKind.wrap_u64]; omega
end Go.Proofs.YteondblmcooklaaDoor
namespace Go.Proofs.YteondblmcooklaaDoor
open Go Go.RowKit
set_option linter.unusedVariables false
theorem canN_mono {a b : Nat} (h : a ≤ b) : (canN a).length ≤ (canN b).length := by
  rw [canN_len]
  have := (@canN_len b (canN b).length).1 (Nat.le_refl _)
  omega
end Go.Proofs.YteondblmcooklaaDoor
namespace Go.Proofs.YteondblmcooklaaDoor
open Go Go.RowKit
set_option linter.unusedVariables false
/-- The quotient and the remainder, canonical limbs both. -/
def DivOut (q r : Nat) (w : World) (e : Ending) (w' : World) : Prop := Below w.heap.size w w' ∧ ∃ A1 c1 A2 c2, e = .returned (.tuple #[.slice A1 (canN q).length c1, .slice A2 (canN r).length c2]) ∧ (canN q).length ≤ c1 ∧ (canN r).length ≤ c2 ∧ LAt w' A1 (canN q) ∧ LAt w' A2 (canN r)
set_option maxRecDepth 100000 in
set_option maxHeartbeats 1000000 in
theorem divmag_less (A B : Option Addr) (x y c d : Nat) (w : World) (hn : (canN x).length ≤ 400000) (hn' : (canN y).length ≤ 400000) (hA : LAt w A (canN x)) (hB : LAt w B (canN y)) (hc : (canN x).length ≤ c) (hxy : x < y) :
    Calls Tryd.prog 70 #[.slice A (canN x).length c, .slice B (canN y).length d] w (DivOut (x / y) (x % y) w) := by
  have hcm := fun w' h h' => cmpmag_any A B x y c d w' (by omega) (by omega) h h'
  rw [cmpI_lt (show (x : Int) < (y : Int) by omega)] at hcm
  have HCM := Lib.hid hcm
  have HA := Lib.hid hA
  have HB := Lib.hid hB
  clear hcm hA hB
  rw [Nat.div_eq_of_lt hxy, Nat.mod_eq_of_lt hxy]
  go_enter Tryd.func70, Tryd.ntmps70; (try simp only [List.append_eq, List.cons_append, List.nil_append])
  go_wp2_with fail
  -- own blocks: 
  (go_at_call 78; refine (HCM.out _ HA.out HB.out).mono ?_; rintro e w1 ⟨rfl, hb_w1⟩; have hz_w1 := hb_w1.size; (try simp at hz_w1); skip)
  have HB1 := Lib.hid hb_w1
  clear hb_w1
  go_wp2_with fail
  go_ret2
  exact ⟨HB1.out, none, 0, A, c, by rw [canN_zero]; rfl, by rw [canN_zero]; exact Nat.le_refl _, hc, by rw [canN_zero]; exact LAt.nil _ _, HA.out.below HB1.out⟩
theorem one_step {a out : List Int} {j : Nat} {y r q r' z v : Int} (h : mv (a.drop (j + 1)) = mv (out.drop (j + 1)) * y + r) (hz : a[j]? = some z) (hj : j < out.length) (hv : v = r * 4294967296 + z) (hq : v = y * q + r') :
    mv (a.drop j) = mv ((out.set j q).drop j) * y + r' := by
  have h1 : (out.set j q)[j]? = some q := by simp [hj]
  rw [mv_drop_succ hz, mv_drop_succ h1, List.drop_set_of_lt (by omega), h]
  grind
set_option maxRecDepth 100000 in
set_option maxHeartbeats 1000000 in
theorem divmag_one (A B : Option Addr) (x y c d : Nat) (w : World) (hn : (canN x).length ≤ 400000) (hA : LAt w A (canN x)) (hB : LAt w B (canN y)) (hxy : y ≤ x) (hy1 : (canN y).length = 1) :
    Calls Tryd.prog 70 #[.slice A (canN x).length c, .slice B (canN y).length d] w (DivOut (x / y) (x % y) w) := by
  have hcm := fun w' h h' => cmpmag_any A B x y c d w' (by omega) (by omega) h h'
  obtain ⟨cm, hcc⟩ : ∃ cm, cm = cmpI x y := ⟨_, rfl⟩
  have cm0 : 0 ≤ cm := by rw [hcc]; unfold cmpI; rw [if_neg (by omega)]; split <;> omega
  rw [← hcc] at hcm
  obtain ⟨a, ha⟩ : ∃ a, a = canN x := ⟨_, rfl⟩
  have hLa : Lim a := by rw [ha]; exact canN_lim x
  have hva : mv a = x := by rw [ha]; exact mv_canN x
  obtain ⟨b, hb⟩ : ∃ b, canN y = [b] := by
    match h : canN y, hy1 with
    | [b], _ => exact ⟨b, rfl⟩
  have hyb : (y : Int) = b := by have := mv_canN y; rw [hb, mv_one] at this; omega
  have hb1 : b < 4294967296 := by have := (canN_lim y) b (by rw [hb]; simp); omega
  have hb0 : 0 < b := by
    have := canN_last y b (by rw [hb]; rfl)
    have := (canN_lim y) b (by rw [hb]; simp)
    omega
  rw [hb, ← ha] at hcm
  rw [hb] at hB
  rw [← ha] at hA hn
  rw [hb, ← ha]
  have hmk := fun w => run_make_row' (P := Tryd.prog) 120 112 (.int .u32 0) 4 Tryd.underlying120 limbInfo rfl .i64 .i64 a.length (by omega) (by omega) w
  have HCM := Lib.hid hcm
  have HA := Lib.hid hA
  have HB := Lib.hid hB
  have HVA := Lib.hid hva
  have HYB := Lib.hid hyb
  have HLA := Lib.hid hLa
  clear hcm hA hB hcc ha hva hyb hLa hb hy1
  go_enter Tryd.func70, Tryd.ntmps70; (try simp only [List.append_eq, List.cons_append, List.nil_append])
  go_wp2_with fail
  -- own blocks: 
  (go_at_call 78; refine (HCM.out _ HA.out HB.out).mono ?_; rintro e w1 ⟨rfl, hb_w1⟩; have hz_w1 := hb_w1.size; (try simp at hz_w1); skip)
  have HB1 := Lib.hid hb_w1
  clear hb_w1
  go_wp2_with fail
  clear hmk
  go_loopw [7, 8] (fun vr vi wr => ∃ (k : Nat) (r : Int) (out : List Int), k ≤ a.length ∧ vi = .int .i64 ((k : Int) - 1) ∧ vr = .int .u64 r ∧ 0 ≤ r ∧ r < b ∧ RowL wr w1.heap.size out ∧ Hid (out.length = a.length ∧ Lim out ∧ mv (a.drop k) = mv (out.drop k) * b + r) ∧ Below w1.heap.size w1 wr) (fun _ vi _ => (intOf vi + 1).toNat)
  case atStart => exact ⟨a.length, 0, List.replicate a.length 0, by omega, rfl, rfl, by omega, by omega, RowL.made w1 a.length, Lib.hid ⟨by simp, Lim.replicate _, by rw [List.drop_length, List.drop_of_length_le (by simp)]; simp [mv]⟩, (Below.refl _ _).alloc (Nat.le_refl _) _⟩
  case round =>
    obtain ⟨k, r, out, hk, rfl, rfl, r0, r1, hrow, HO, hbel⟩ := hrel
    have HBW := Lib.hid (HB1.out.trans (hbel.mono (HB1.out.size)))
    have HBE := Lib.hid hbel
    have HR := Lib.hid hrow
    have hsz := hbel.size
    have hlt := hrow.lt
    clear hbel hrow
    rcases k with _ | j
    · have hfin := HO.out.2.2
      rw [List.drop_zero, List.drop_zero, HVA.out, ← HYB.out] at hfin
      have hm0 := mv_nonneg HO.out.2.1
      have hyp : 0 < y := by have := HYB.out; omega
      obtain ⟨R, rfl⟩ := Int.eq_ofNat_of_zero_le r0
      have hQ : (mv out).toNat = x / y ∧ R = x % y := by
        obtain ⟨Q, hQ⟩ := Int.eq_ofNat_of_zero_le hm0
        rw [hQ] at hfin ⊢
        have h1 : x = y * Q + R := by
          have : (x : Int) = ((y * Q + R : Nat) : Int) := by rw [hfin, Int.natCast_add, Int.natCast_mul, Int.mul_comm]
          exact_mod_cast this
        have h2 : R < y := by have := HYB.out; omega
        rw [Int.toNat_natCast, h1]
        rw [Nat.mul_add_div hyp, Nat.div_eq_of_lt h2, Nat.mul_add_mod, Nat.mod_eq_of_lt h2]
        simp
      have hlim1 : Lim [(R : Int)] := Lim.cons (by omega) (by omega) Lim.nil
      have hmg := fun w' h => mag_any (some ⟨w1.heap.size, 0, none⟩) out a.length w' HO.out.2.1 h (by have := HO.out.1; omega) (by have := HO.out.1; omega)
      rw [HO.out.1, hQ.1] at hmg
      have hmr := fun w' B' h => mag_any (some ⟨B', 0, none⟩) [(R : Int)] 1 w' hlim1 h (by simp) (by simp)
      rw [mv_one, Int.toNat_natCast, hQ.2, ← hQ.2] at hmr
      have HMG := Lib.hid hmg
      have HRQ := Lib.hid hQ.2
      clear hmg hfin hm0
      rw [HRQ.out] at hmr
      have e1 : (R : Int) = ((x % y : Nat) : Int) := by rw [HRQ.out]
      obtain ⟨S, hS⟩ : ∃ S : Nat, S = x % y := ⟨_, rfl⟩
      rw [← hS] at hmr hQ
      obtain rfl : R = S := hQ.2
      have HSQ := Lib.hid hS.symm
      have HMR := Lib.hid hmr
      have hb2 : (R : Int) < 4294967296 := by omega
      have hlr := HR.out.lat
      have HLR := Lib.hid hlr
      clear hmr hQ e1 hlr hlim1 hS HRQ hyp
      go_wp2_with fail
      (go_at_call 69; refine (HMG.out _ HLR.out).mono ?_; rintro e w2 ⟨hb_w2, A1, c1, rfl, hc1, hA1⟩)
      have hz2 := hb_w2.size
      have HB2 := Lib.hid (HBW.out.trans (hb_w2.mono (by have := HB1.out.size; omega)))
      have HA1 := Lib.hid hA1
      have HC1 := Lib.hid hc1
      have l2 : w1.heap.size < w2.heap.size := by omega
      clear hb_w2 hA1 hc1
      go_wp2_with fail
      (go_at_call 69; refine (HMR.out _ w2.heap.size (lat_one (by simp) (by go_simp))).mono ?_; rintro e w3 ⟨hb_w3, A2, c2, rfl, hc2, hA2⟩)
      have HB3 := Lib.hid ((HB2.out.alloc (by have := HB2.out.size; omega) _).trans (hb_w3.mono (by have := HB2.out.size; simp; omega)))
      have HA1' := Lib.hid ((HA1.out.alloc (.cells #[.int .u32 (R : Int)] 112)).below hb_w3)
      have HA2 := Lib.hid hA2
      have HC2 := Lib.hid hc2
      clear hb_w3 hA2 hc2
      go_wp2_with fail
      go_ret2
      rw [HSQ.out]
      exact ⟨HB3.out, A1, c1, A2, c2, rfl, HC1.out, HC2.out, HA1'.out, HA2.out⟩
    · obtain ⟨z, hz⟩ : ∃ z, a[j]? = some z := ⟨a[j], by simp⟩
      obtain ⟨g, o, rfl, hg, hc1⟩ := HA.out.below HBW.out j z hz
      obtain ⟨g', o', rfl, hg', hc2⟩ := HB.out.below HBW.out 0 b rfl
      rw [Nat.add_zero] at hc2
      have hgb : g' < w1.heap.size := by
        obtain ⟨g2, o2, he, hg2, _⟩ := HB.out.below HB1.out 0 b rfl
        simp only [Option.some.injEq, Addr.mk.injEq] at he
        omega
      have hgn : ¬ g' = w1.heap.size := by omega
      have hgn' : ¬ w1.heap.size = g' := by omega
      obtain ⟨z0, z1⟩ := HLA.out.get hz
      have HZ := Lib.hid hz
      have hjo : j < out.length := by have := HO.out.1; omega
      have hc3 := HR.out.cell (List.getElem?_eq_getElem hjo)
      have hfz := HR.out.frozen
      have i1 : (0 : Int) ≤ (j : Int) := by omega
      have i2 : (j : Int) < (a.length : Int) := by omega
      have i3 : (a.length : Int) ≤ 400000 := by omega
      obtain ⟨v, hv⟩ : ∃ v, v = r * 4294967296 + z := ⟨_, rfl⟩
      have hsh : IntKind.u64.wrap (r * 4294967296) = r * 4294967296 := by rw [IntKind.wrap_u64]; omega
      have hor : bits .or .u64 (r * 4294967296) z = v := by
        rw [hv]
        exact bits_join .u64 64 (by decide) wraps_u64' 32 (r * 4294967296) z (by omega) (Int.mul_emod_left _ _) (by omega) z0 (by omega) (by omega)
      have v0 : 0 ≤ v := by omega
      have v1 : v < 18446744073709551616 := by omega
      obtain ⟨q, hq⟩ : ∃ q, q = v / b := ⟨_, rfl⟩
      obtain ⟨s, hs⟩ : ∃ s, s = v % b := ⟨_, rfl⟩
      have q0 : 0 ≤ q := by rw [hq]; exact Int.ediv_nonneg v0 (by omega)
      have q1 : q < 4294967296 := by
        rw [hq]
        refine Int.ediv_lt_of_lt_mul (by omega) ?_
        have : (r + 1) * 4294967296 ≤ b * 4294967296 := Int.mul_le_mul_of_nonneg_right (by omega) (by omega)
        rw [hv]; omega
      have s0 : 0 ≤ s := by rw [hs]; exact Int.emod_nonneg _ (by omega)
      have s1 : s < b := by rw [hs]; exact Int.emod_lt_of_pos _ hb0
      have hqs : v = b * q + s := by rw [hq, hs]; exact (Int.mul_ediv_add_emod _ _).symm
      have HST := Lib.hid (one_step (q := q) (r' := s) HO.out.2.2 HZ.out hjo hv hqs)
      have e1 : v.tdiv b = q := by rw [hq]; exact Int.tdiv_eq_ediv_of_nonneg v0
      have e2 : v.tmod b = s := by rw [hs]; exact Int.tmod_eq_emod_of_nonneg v0
      have e3 : IntKind.u64.wrap (v.tdiv b) = q := by rw [e1]; exact wraps_u64' q q0 (by omega)
      have n0 : (b == 0) = false := by rw [beq_eq_false_iff_ne]; omega
      have n1 : ¬ b = 0 := by omega
      have HV := Lib.hid hv
      have hq' := hq.symm
      have hs' := hs.symm
      clear hv hq hs hqs hz
      go_wp2_with fail
      go_roundw
      case rel => exact ⟨j, s, out.set j q, by omega, rfl, rfl, s0, s1, HR.out.set _ _, Lib.hid ⟨by rw [List.length_set]; exact HO.out.1, HO.out.2.1.set _ q0 q1, HST.out⟩, HBE.out.setCell (Nat.le_refl _) _⟩
      case measure => simp [intOf]
end Go.Proofs.YteondblmcooklaaDoor
namespace Go.Proofs.YteondblmcooklaaDoor
open Go Go.RowKit
set_option linter.unusedVariables false
/-- The address leads to these limbs. -/
def BAt (w : World) (A : Option Addr) (l : List Int) : Prop := ∀ k x, l[k]? = some x → ∃ g o, A = some ⟨g, o, none⟩ ∧ g < w.heap.size ∧ w.cell? ⟨g, o + k, none⟩ = some (.int .u8 x)
theorem BAt.nil (w : World) (A : Option Addr) : BAt w A [] := fun k x h => by simp at h
theorem BAt.below {w w1 : World} {A : Option Addr} {l : List Int} (h : BAt w A l) (hb : Below w.heap.size w w1) : BAt w1 A l := by
  intro k x hx
  obtain ⟨g, o, hA, hg, hc⟩ := h k x hx
  exact ⟨g, o, hA, Nat.lt_of_lt_of_le hg hb.size, by rw [hb.cell (by simpa using hg)]; exact hc⟩
theorem BAt.own {w w1 : World} {A : Option Addr} {l : List Int} {N : Nat} (h : BAt w A l) (hb : Own N w w1) (hN : w.heap.size ≤ N) : BAt w1 A l := h.below (hb.2.mono hN)
theorem BAt.drew {w : World} {A : Option Addr} {l : List Int} (h : BAt w A l) : BAt w.drew A l := h
theorem BAt.alloc {w : World} {A : Option Addr} {l : List Int} (h : BAt w A l) (o : Obj) : BAt (w.alloc o) A l := h.below ((Below.refl _ _).alloc (Nat.le_refl _) _)
theorem BAt.take {w : World} {A : Option Addr} {l : List Int} (h : BAt w A l) (n : Nat) : BAt w A (l.take n) := by
  intro k x hx
  rw [List.getElem?_take] at hx
  split at hx
  · exact h k x hx
  · cases hx
/-- A store where no limb was. -/
theorem BAt.setCell {w : World} {A : Option Addr} {l : List Int} (h : BAt w A l) {p : Addr} {u : Value} (hp : w.cell? p = some u) (hu : ∀ x, u ≠ .int .u8 x) (v : Value) : BAt (w.setCell p v) A l := by
  intro k x hx
  obtain ⟨g, o, hA, hg, hc⟩ := h k x hx
  refine ⟨g, o, hA, by simpa [World.setCell] using hg, ?_⟩
  rw [World.cell?_setCell_other w p _ v (fun e => by
    subst e
    rw [hc] at hp
    exact hu x (Option.some.inj hp).symm)]
  exact hc
theorem BAt.grown {w w1 : World} {A : Option Addr} {l : List Int} {row : Option Nat} (h : BAt w A l) (hg : w.grownBy w1 row) (hne : ∀ g o, A = some ⟨g, o, none⟩ → some g ≠ row) : BAt w1 A l := by
  intro k x hx
  obtain ⟨g, o, hA, hlt, hc⟩ := h k x hx
  exact ⟨g, o, hA, Nat.lt_of_lt_of_le hlt hg.size, by rw [World.cell?_of_block (hg.block g hlt (hne g o hA))]; exact hc⟩
/-- A row of limbs that the call owns. -/
def OwnB (w : World) (base : Nat) (v : Value) (l : List Int) : Prop := w.ownsRow base 5 1 v l.length (l.map (Value.int .u8))
theorem OwnB.nil (w : World) (base : Nat) : OwnB w base (.slice none 0 0) [] := World.ownsRow_nil _ _ _ _
theorem OwnB.alloc {w : World} {base : Nat} {v : Value} {l : List Int} (h : OwnB w base v l) (o : Obj) : OwnB (w.alloc o) base v l := World.ownsRow.alloc h o
theorem OwnB.below {w w1 : World} {base : Nat} {v : Value} {l : List Int} (h : OwnB w base v l) (hb : Below w.heap.size w w1) : OwnB w1 base v l := by
  obtain ⟨h1, h2⟩ := h
  refine ⟨h1, ?_⟩
  rcases h2 with h2 | ⟨g, cap, cur, hv, hg, hh, r⟩
  · exact .inl h2
  · refine .inr ⟨g, cap, cur, hv, hg, ?_, r⟩
    have hlt : g < w.heap.size := (Array.getElem?_eq_some_iff.1 hh).1
    rw [hb.block _ hlt]; exact hh
theorem OwnB.setCell {w : World} {base : Nat} {v : Value} {l : List Int} (h : OwnB w base v l) {p : Addr} (hp : p.block < base) (u : Value) : OwnB (w.setCell p u) base v l := ownsRow_setCell_below h hp u
theorem OwnB.weak {w : World} {base base' : Nat} {v : Value} {l : List Int} (h : OwnB w base v l) (hb : base' ≤ base) : OwnB w base' v l := by
  obtain ⟨h1, h2⟩ := h
  refine ⟨h1, ?_⟩
  rcases h2 with h2 | ⟨g, cap, cur, hv, hg, r⟩
  · exact .inl h2
  · exact .inr ⟨g, cap, cur, hv, by omega, r⟩
theorem OwnB.lat {w : World} {base : Nat} {A : Option Addr} {n c : Nat} {l : List Int} (h : OwnB w base (.slice A n c) l) : BAt w A l := by
  rcases h.2 with ⟨hv, h0⟩ | ⟨g, cap, cur, hv, hb, hh, hc, hm, hs, ht⟩
  · have hl := List.length_eq_zero_iff.1 h0
    subst hl
    exact BAt.nil _ _
  · have hA : A = some ⟨g, 0, none⟩ := by injection hv
    subst hA
    refine fun k x hx => ⟨g, 0, rfl, (Array.getElem?_eq_some_iff.1 hh).1, ?_⟩
    have hcell := World.ownsRow.cells h (g := g) rfl k (.int .u8 x) (by rw [List.getElem?_map, hx]; rfl)
    unfold Addr.add at hcell
    split at hcell
    · rename_i h0; rw [h0]; exact hcell
    · exact hcell
/-- The block g begins with these limbs, and may be written. -/
def Bub (w : World) (g : Nat) (l : List Int) : Prop := g < w.heap.size ∧ (∀ k x, l[k]? = some x → w.cell? ⟨g, k, none⟩ = some (.int .u8 x)) ∧ ∀ o, w.frozen? ⟨g, o, none⟩ = false
theorem Bub.take {w : World} {g : Nat} {l : List Int} (h : Bub w g l) (n : Nat) : Bub w g (l.take n) := by
  refine ⟨h.1, fun k x hx => ?_, h.2.2⟩
  rw [List.getElem?_take] at hx
  split at hx
  · exact h.2.1 k x hx
  · cases hx
theorem Bub.below {w w1 : World} {g : Nat} {l : List Int} (h : Bub w g l) (hb : Below w.heap.size w w1) : Bub w1 g l :=
  ⟨Nat.lt_of_lt_of_le h.1 hb.size, fun k x hx => by rw [hb.cell h.1]; exact h.2.1 k x hx, fun o => by rw [hb.frozen h.1]; exact h.2.2 o⟩
theorem Bub.lat {w : World} {g : Nat} {l : List Int} (h : Bub w g l) : BAt w (some ⟨g, 0, none⟩) l := fun k x hx => ⟨g, 0, rfl, h.1, by rw [Nat.zero_add]; exact h.2.1 k x hx⟩
theorem Bub.set {w : World} {g : Nat} {l : List Int} (h : Bub w g l) {i : Nat} {y : Int} (hy : l[i]? = some y) (x : Int) : Bub (w.setCell ⟨g, i, none⟩ (.int .u8 x)) g (l.set i x) := by
  have hi := (List.getElem?_eq_some_iff.1 hy).1
  refine ⟨by simpa [World.setCell] using h.1, fun k z hz => ?_, fun o => ?_⟩
  · by_cases e : i = k
    · subst e
      rw [List.getElem?_set_self hi] at hz
      rw [← Option.some.inj hz]
      exact World.cell?_setCell_same w _ _ (h.2.1 i y hy)
    · rw [List.getElem?_set_ne e] at hz
      rw [World.cell?_setCell_other w _ _ _ (fun e' => by simp at e' <;> exact e e')]
      exact h.2.1 k z hz
  · rw [World.frozen?_setCell]
    exact h.2.2 o
/-- Numbers as bytes. -/
def strOf (l : List Int) : ByteArray := ⟨(l.map fun x => UInt8.ofNat x.toNat).toArray⟩
def Byte (l : List Int) : Prop := ∀ x ∈ l, 0 ≤ x ∧ x < 256
theorem run_bytes_string (w : World) (g n c : Nat) (l : List Int) (hl : Byte l) (hn : l.length = n) (h : ∀ k x, l[k]? = some x → w.cell? ⟨g, k, none⟩ = some (.int .u8 x)) :
    (convert 50 9 (.slice (some ⟨g, 0, none⟩) n c)).run Tryd.prog w = .ok (.string (strOf l)) w := by
  have := run_convert_bytes_back (P := Tryd.prog) w 50 9 5 ⟨g, 0, none⟩ c (l.map fun x => UInt8.ofNat x.toNat) Tryd.underlying50 Tryd.underlying5 Tryd.underlying9 (fun j hj => by
    rw [List.length_map] at hj
    have hx : l[j]? = some l[j] := List.getElem?_eq_getElem hj
    have h1 := hl l[j] (List.getElem_mem hj)
    have h2 : ((UInt8.ofNat (l[j]).toNat).toNat : Int) = l[j] := by
      rw [UInt8.toNat_ofNat']
      omega
    rw [List.getElem_map, h2]
    unfold Addr.add
    split
    · rename_i h0; subst h0; exact h 0 _ hx
    · simpa using h j _ hx)
  rw [List.length_map, hn] at this
  exact this
end Go.Proofs.YteondblmcooklaaDoor
namespace Go.Proofs.YteondblmcooklaaDoor
open Go Go.RowKit
set_option linter.unusedVariables false
theorem ret_boolG {a b : Bool} (h : a = b) : Ending.returned (.bool a) = .returned (.bool b) := by rw [h]
theorem canN_ne0 {x : Nat} (h : x ≠ 0) : (((canN x).length : Int) == 0) = false := by
  rw [beq_eq_false_iff_ne]
  intro e
  exact h (canN_len0.1 (by omega))
/-- The decimal digits of a number, the lowest first, as bytes. -/
def digR (n : Nat) : List Int := if h : n = 0 then [] else ((48 + n % 10 : Nat) : Int) :: digR (n / 10)
termination_by n
decreasing_by omega
theorem digR_zero : digR 0 = [] := by unfold digR; rfl
theorem digR_pos {n : Nat} (h : n ≠ 0) : digR n = ((48 + n % 10 : Nat) : Int) :: digR (n / 10) := by rw [digR, dif_neg h]
theorem digR_len {k : Nat} : ∀ {n : Nat}, n < 10 ^ k → (digR n).length ≤ k := by
  induction k with
  | zero => intro n h; have : n = 0 := by simpa using h
            subst this; rw [digR_zero]; simp
  | succ k ih =>
    intro n h
    by_cases h0 : n = 0
    · subst h0; rw [digR_zero]; simp
    · rw [digR_pos h0, List.length_cons]
      have := @ih (n / 10) (by rw [Nat.pow_succ] at h; omega)
      omega
theorem digR_limbs {n L : Nat} (h : (canN n).length ≤ L) : (digR n).length ≤ 10 * L := by
  apply digR_len
  have h1 := canN_len.1 h
  have e : PB L = ((4294967296 ^ L : Nat) : Int) := by unfold PB; rw [Int.natCast_pow]; rfl
  rw [e] at h1
  have h2 : n < 4294967296 ^ L := by exact_mod_cast h1
  have h3 : 4294967296 ^ L ≤ (10 ^ 10) ^ L := Nat.pow_le_pow_left (by decide) L
  rw [Nat.pow_mul]
  omega
theorem digR_step {q r m : Nat} (h : 0 < q * 10 ^ (m + 1) + r) : digR (q * 10 ^ (m + 1) + r) = ((48 + r % 10 : Nat) : Int) :: digR (q * 10 ^ m + r / 10) := by
  rw [digR_pos (by omega)]
  have e : q * 10 ^ (m + 1) = 10 * (q * 10 ^ m) := by rw [Nat.pow_succ]; grind
  have e1 : (q * 10 ^ (m + 1) + r) % 10 = r % 10 := by rw [e]; omega
  have e2 : (q * 10 ^ (m + 1) + r) / 10 = q * 10 ^ m + r / 10 := by rw [e]; omega
  rw [e1, e2]
/-- The text of an integer, as bytes. -/
def textR (z : Int) : List Int := if z = 0 then [48] else (if z < 0 then [45] else []) ++ (digR z.natAbs).reverse
/-- A number is large. -/
def lgB (z : Int) : Bool := decide (256 < (canN z.natAbs).length)
def textE (a : Int) : ByteArray × Int := if lgB a then (⟨#[]⟩, 2) else (strOf (textR a), 0)
set_option maxHeartbeats 1000000 in
theorem rlarge_any (n : Nat) (v : Value) (z : Int) (w : World) (h : IsZ w v n z) (hn : n ≤ 1000000) :
    Calls Tryd.prog 68 #[v] w fun e w' => e = .returned (.bool (lgB z)) ∧ Below w.heap.size w w' := by
  obtain ⟨p, A, c, l, rfl, hc, hL, hl, hAt, ea, ma, ca⟩ := isZ_open h
  have hma := fun w' (h : Below w.heap.size w w') => mag_any A l c w' hL (hAt.below h) hc (by omega)
  rw [ma] at hma
  obtain ⟨k, hk⟩ : ∃ k, k = (canN z.natAbs).length := ⟨_, rfl⟩
  have e : lgB z = decide (256 < k) := by unfold lgB; rw [hk]
  rw [e]
  obtain ⟨x, hx⟩ : ∃ x, x = z.natAbs := ⟨_, rfl⟩
  rw [← hx] at hma hk
  have hk0 : k ≤ 1000000 := by rw [← hx, ← hk] at ca; omega
  have HMA := Lib.hid hma
  clear hma hAt ea ma ca h e hx
  go_enter Tryd.func68, Tryd.ntmps68; (try simp only [List.append_eq, List.cons_append, List.nil_append])
  go_wp2_with fail
  -- own blocks: w.heap.size:2
  (go_at_call 69; refine (HMA.out _ (by ((with_reducible (repeat (first | exact bR _ _ | refine bS ?_ ?_ _ | refine bA ?_ ?_ _ | refine bD ?_ | refine bT ?_ (by assumption) ?_ | refine bO (by assumption) ?_ ?_))) <;> (first | omega | (simp; done) | (simp <;> omega))))).mono ?_; rintro e w1 ⟨hb_w1, A1, c1, rfl, hc1, hA1⟩; have hz_w1 := hb_w1.size; (try simp at hz_w1); (with_reducible apply cel2 (b := w.heap.size) hb_w1); (focus ((try simp) <;> omega)); (focus omega); (focus (go_simp; try exact rfl)); (focus (go_simp; try exact rfl)); (focus (intro o; go_simp)); intro cc cc fz hl)
  rw [← hk] at hc1 ⊢
  clear hA1
  go_wp2_with fail
  go_ret
  refine ⟨ret_boolG ?_, by ((with_reducible (repeat (first | exact bR _ _ | refine bS ?_ ?_ _ | refine bA ?_ ?_ _ | refine bD ?_ | refine bT ?_ (by assumption) ?_ | refine bO (by assumption) ?_ ?_))) <;> (first | omega | (simp; done) | (simp <;> omega)))⟩
  first | rfl | (apply decide_eq_decide.2; omega)
theorem strOf_append (a b : List Int) : strOf a ++ strOf b = strOf (a ++ b) := by
  unfold strOf
  apply ByteArray.ext
  simp
theorem strOf_size (l : List Int) : (strOf l).size = l.length := by
  unfold strOf
  simp [ByteArray.size]
theorem canN_one {x : Nat} (h0 : x ≠ 0) (h : x < 4294967296) : canN x = [(x : Int)] := by
  rw [canN_pos h0, Nat.mod_eq_of_lt h, Nat.div_eq_of_lt h, canN_zero]
theorem strOf_snoc (lo : List Int) (d : Int) : strOf [d] ++ strOf lo.reverse = strOf (lo ++ [d]).reverse := by
  rw [strOf_append, List.reverse_append]; rfl
theorem divmag_short (A B : Option Addr) (x y c d : Nat) (w : World) (hn : (canN x).length ≤ 200000) (hn' : (canN y).length ≤ 200000) (hA : LAt w A (canN x)) (hB : LAt w B (canN y)) (hc : (canN x).length ≤ c) (hy1 : (canN y).length = 1) :
    Calls Tryd.prog 70 #[.slice A (canN x).length c, .slice B (canN y).length d] w (DivOut (x / y) (x % y) w) := by
  rcases Nat.lt_or_ge x y with h | h
  · exact divmag_less A B x y c d w (by omega) (by omega) hA hB hc h
  · exact divmag_one A B x y c d w (by omega) hA hB h hy1
set_option maxRecDepth 100000 in
set_option maxHeartbeats 4000000 in
theorem rtext_any (n : Nat) (u : Value) (a : Int) (w : World) (ha : IsZ w u n a) (hn : n ≤ 100000) :
    Calls Tryd.prog 60 #[u] w fun e w' => e = .returned (.tuple #[.string (textE a).1, .int .i64 (textE a).2]) ∧ Below w.heap.size w w' := by
  have HA := Lib.hid ha
  obtain ⟨p, A, c, l, rfl, hc, hL, hl, hAt, ea, ma, ca⟩ := isZ_open ha
  have hma := fun w' (h : Below w.heap.size w w') => mag_any A l c w' hL (hAt.below h) hc (by omega)
  rw [ma] at hma
  have hlg := fun w' (h : Below w.heap.size w w') => rlarge_any n _ a w' (HA.out.below h) (by omega)
  have hsg := fun w' (h : Below w.heap.size w w') => sign_any n _ a w' (HA.out.below h) (by omega)
  obtain ⟨Z, hZ⟩ : ∃ x, x = a.natAbs := ⟨_, rfl⟩
  rw [← hZ] at hma ca
  obtain ⟨ln, hln⟩ : ∃ q, q = l.length := ⟨_, rfl⟩
  rw [← hln] at hma hlg hsg ⊢
  obtain ⟨q, hq⟩ : ∃ q, q = lgB a := ⟨_, rfl⟩
  rw [← hq] at hlg
  have hdl := digR_limbs ca
  have HMA := Lib.hid hma
  have HLG := Lib.hid hlg
  have HSG := Lib.hid hsg
  clear hma hlg hsg ha hAt ea ma hL hl hln hc HA
  cases q
  · have HE := Lib.hid (show textE a = (strOf (textR a), 0) by unfold textE; rw [← hq]; rfl)
    rw [HE.out]
    clear hq
    by_cases h0 : Z = 0
    · have ha0 : a = 0 := by omega
      have ht : strOf (textR a) = ⟨#[48]⟩ := by rw [ha0]; rfl
      rw [ht]
      subst h0
      have hma := HMA.out
      unfold SlOut at hma
      rw [canN_zero] at hma
      have HMA := Lib.hid hma
      clear HE ht ha0 hZ hma
      go_enter Tryd.func60, Tryd.ntmps60; (try simp only [List.append_eq, List.cons_append, List.nil_append])
      go_wp2_with fail
      -- own blocks: w.heap.size:2
      (go_at_call 68; refine (HLG.out _ (by ((with_reducible (repeat (first | exact bR _ _ | refine bS ?_ ?_ _ | refine bA ?_ ?_ _ | refine bD ?_ | refine bT ?_ (by assumption) ?_ | refine bO (by assumption) ?_ ?_))) <;> (first | omega | (simp; done) | (simp <;> omega))))).mono ?_; rintro e w1 ⟨rfl, hb_w1⟩; have hz_w1 := hb_w1.size; (try simp at hz_w1); (with_reducible apply cel2 (b := w.heap.size) hb_w1); (focus ((try simp) <;> omega)); (focus omega); (focus (go_simp; try exact rfl)); (focus (go_simp; try exact rfl)); (focus (intro o; go_simp)); intro cc cc fz hl)
      have HB1 := Lib.hid (show Below w.heap.size w w1 by ((with_reducible (repeat (first | exact bR _ _ | refine bS ?_ ?_ _ | refine bA ?_ ?_ _ | refine bD ?_ | refine bT ?_ (by assumption) ?_ | refine bO (by assumption) ?_ ?_))) <;> (first | omega | (simp; done) | (simp <;> omega))))
      clear hb_w1
      go_wp2_with fail
      (go_at_call 69; refine (HMA.out _ HB1.out).mono ?_; rintro e w2 ⟨hb_w2, A1, c1, rfl, hc1, hA1⟩; have hz_w2 := hb_w2.size; (try simp at hz_w2); (with_reducible apply cel2 (b := w.heap.size) hb_w2); (focus ((try simp) <;> omega)); (focus omega); (focus (go_simp; try exact rfl)); (focus (go_simp; try exact rfl)); (focus (intro o; go_simp)); intro cc cc fz hl)
      have HB2 := Lib.hid (HB1.out.trans (hb_w2.mono (by omega)))
      clear hb_w2 hA1
      go_wp2_with fail
      go_ret2
      exact ⟨rfl, HB2.out⟩
    · have HT := Lib.hid (show textR a = (if a < 0 then [45] else []) ++ (digR Z).reverse by unfold textR; rw [if_neg (by omega), hZ])
      clear hZ
      go_enter Tryd.func60, Tryd.ntmps60; (try simp only [List.append_eq, List.cons_append, List.nil_append])
      go_wp2_with fail
      -- own blocks: w.heap.size:2
      (go_at_call 68; refine (HLG.out _ (by ((with_reducible (repeat (first | exact bR _ _ | refine bS ?_ ?_ _ | refine bA ?_ ?_ _ | refine bD ?_ | refine bT ?_ (by assumption) ?_ | refine bO (by assumption) ?_ ?_))) <;> (first | omega | (simp; done) | (simp <;> omega))))).mono ?_; rintro e w1 ⟨rfl, hb_w1⟩; have hz_w1 := hb_w1.size; (try simp at hz_w1); (with_reducible apply cel2 (b := w.heap.size) hb_w1); (focus ((try simp) <;> omega)); (focus omega); (focus (go_simp; try exact rfl)); (focus (go_simp; try exact rfl)); (focus (intro o; go_simp)); intro cc cc fz hl)
      have HB1 := Lib.hid (show Below w.heap.size w w1 by ((with_reducible (repeat (first | exact bR _ _ | refine bS ?_ ?_ _ | refine bA ?_ ?_ _ | refine bD ?_ | refine bT ?_ (by assumption) ?_ | refine bO (by assumption) ?_ ?_))) <;> (first | omega | (simp; done) | (simp <;> omega))))
      have hz1 : w.heap.size + 1 ≤ w1.heap.size := by omega
      clear hb_w1
      go_wp2_with fail
      (go_at_call 69; refine (HMA.out _ HB1.out).mono ?_; rintro e w2 ⟨hb_w2, A1, c1, rfl, hc1, hA1⟩; have hz_w2 := hb_w2.size; (try simp at hz_w2); (with_reducible apply cel2 (b := w.heap.size) hb_w2); (focus ((try simp) <;> omega)); (focus omega); (focus (go_simp; try exact rfl)); (focus (go_simp; try exact rfl)); (focus (intro o; go_simp)); intro cc cc fz hl)
      have HB2 := Lib.hid (HB1.out.trans (hb_w2.mono (by omega)))
      have hz2 : w.heap.size + 1 ≤ w2.heap.size := by omega
      have HA1 := Lib.hid hA1
      have HC1 := Lib.hid hc1
      have hl0 : (canN Z).length ≠ 0 := fun e => h0 (canN_len0.1 e)
      have e0 : (((canN Z).length : Int) == 0) = false := canN_ne0 h0
      clear hb_w2 hA1 hc1 h0
      go_wp2_with fail
      clear hl0
      go_loopg [4, 5] Z (fun gk vm vs wr => ∃ (X : Nat) (lo : List Int) (A : Option Addr) (c : Nat), X = gk ∧ vm = .slice A (canN X).length c ∧ vs = .string (strOf lo.reverse) ∧ (canN X).length ≤ c ∧ (canN X).length ≤ 100000 ∧ Hid (LAt wr A (canN X) ∧ digR Z = lo ++ digR X) ∧ Below w2.heap.size w2 wr)
      case atStart => exact ⟨Z, [], A1, c1, rfl, rfl, rfl, HC1.out, by omega, Lib.hid ⟨HA1.out, rfl⟩, Below.refl _ _⟩
      case round =>
        obtain ⟨X, lo, A3, c3, hgk, rfl, rfl, hc3, hx3, HR, hbel⟩ := hrel
        subst hgk
        obtain ⟨wo, rfl⟩ : ∃ wo : World, wo = wr := ⟨_, rfl⟩
        have HBE := Lib.hid hbel
        have hz := hbel.size
        have hb_wo := hbel
        (with_reducible apply cel2 (b := w.heap.size) hb_wo); (focus ((try simp) <;> omega)); (focus omega); (focus (go_simp; try exact rfl)); (focus (go_simp; try exact rfl)); (focus (intro o; go_simp)); intro cc cc fz hl
        have hlo : lo.length ≤ 1000000 := by
          have := congrArg List.length HR.out.2
          rw [List.length_append] at this
          omega
        clear hb_wo hbel
        by_cases h0 : X = 0
        · have hfin := HR.out.2
          subst h0
          rw [digR_zero, List.append_nil] at hfin
          have j0 : ¬ (0 : Int) < ((canN 0).length : Int) := by rw [canN_zero]; simp
          rw [← hfin] at hlo ⊢
          by_cases hn0 : a < 0
          · have HF := Lib.hid (show strOf (textR a) = ⟨#[45]⟩ ++ strOf (digR Z).reverse by
              rw [HT.out, if_pos hn0, ← strOf_append]; rfl)
            have hs1 : sgn a = -1 := by unfold sgn; rw [if_neg (by omega), if_pos hn0]
            have hsz : ¬ (⟨#[45]⟩ : ByteArray).size + (strOf (digR Z).reverse).size > 9223372036854775807 := by
              rw [strOf_size, List.length_reverse]; show ¬ 1 + _ > _; omega
            have hsz2 := hsz
            rw [hs1] at HSG
            clear hs1 hfin hn0 HT
            go_wp2_with fail
            (go_at_call 71; refine (HSG.out _ (HB2.out.trans (HBE.out.mono (by omega)))).mono ?_; rintro e w5 ⟨rfl, hb_w5⟩; have hz_w5 := hb_w5.size; (try simp at hz_w5); (with_reducible apply cel2 (b := w.heap.size) hb_w5); (focus ((try simp) <;> omega)); (focus omega); (focus (go_simp; try exact rfl)); (focus (go_simp; try exact rfl)); (focus (intro o; go_simp)); intro cc cc fz hl)
            go_wp2_with fail
            go_ret2
            exact ⟨by rw [HF.out]; rfl, (HB2.out.trans (HBE.out.mono (by omega))).trans (hb_w5.mono (by omega))⟩
          · have HF := Lib.hid (show strOf (textR a) = strOf (digR Z).reverse by
              rw [HT.out, if_neg hn0]; rfl)
            obtain ⟨S, hS, hS0⟩ : ∃ S, sgn a = S ∧ ¬ S < 0 := ⟨_, rfl, by unfold sgn; split <;> (try split) <;> omega⟩
            rw [hS] at HSG
            clear hS hfin hn0 HT
            go_wp2_with fail
            (go_at_call 71; refine (HSG.out _ (HB2.out.trans (HBE.out.mono (by omega)))).mono ?_; rintro e w5 ⟨rfl, hb_w5⟩; have hz_w5 := hb_w5.size; (try simp at hz_w5); (with_reducible apply cel2 (b := w.heap.size) hb_w5); (focus ((try simp) <;> omega)); (focus omega); (focus (go_simp; try exact rfl)); (focus (go_simp; try exact rfl)); (focus (intro o; go_simp)); intro cc cc fz hl)
            go_wp2_with fail
            go_ret2
            exact ⟨by rw [HF.out]; rfl, (HB2.out.trans (HBE.out.mono (by omega))).trans (hb_w5.mono (by omega))⟩
        · have hl0 : (canN X).length ≠ 0 := fun e => h0 (canN_len0.1 e)
          have j0 : (0 : Int) < ((canN X).length : Int) := by omega
          have hd9 : canN 1000000000 = [1000000000] := canN_one (x := 1000000000) (by decide) (by decide)
          have hdv := fun B w' (hA : LAt w' A3 (canN X)) (hB : LAt w' B (canN 1000000000)) => divmag_short A3 B X 1000000000 c3 1 w' (by omega) (by rw [hd9]; simp) hA hB hc3 (by rw [hd9]; rfl)
          rw [hd9] at hdv
          have HDV := Lib.hid hdv
          have HX0 := Lib.hid h0
          clear hdv hd9 hl0 h0
          go_wp2_with fail
          (go_at_call 70; refine (HDV.out _ _ (HR.out.1.alloc _) (lat_one (by simp) (by go_simp))).mono ?_; rintro e w5 ⟨hb_w5, A5, c5, A6, c6, rfl, hc5, hc6, hA5, hA6⟩; have hz_w5 := hb_w5.size; (try simp at hz_w5); (with_reducible apply cel2 (b := w.heap.size) hb_w5); (focus ((try simp) <;> omega)); (focus omega); (focus (go_simp; try exact rfl)); (focus (go_simp; try exact rfl)); (focus (intro o; go_simp)); intro cc cc fz hl)
          have HB5 := Lib.hid (HBE.out.trans ((show Below wo.heap.size wo w5 by ((with_reducible (repeat (first | exact bR _ _ | refine bS ?_ ?_ _ | refine bA ?_ ?_ _ | refine bD ?_ | refine bT ?_ (by assumption) ?_ | refine bO (by assumption) ?_ ?_))) <;> (first | omega | (simp; done) | (simp <;> omega)))).mono hz))
          have hz5 := HB5.out.size
          have HA5 := Lib.hid hA5
          have HC5 := Lib.hid hc5
          obtain ⟨Q, hQ⟩ : ∃ Q, Q = X / 1000000000 := ⟨_, rfl⟩
          obtain ⟨R, hR⟩ : ∃ R, R = X % 1000000000 := ⟨_, rfl⟩
          rw [← hQ] at HA5 HC5 ⊢
          rw [← hR] at hA6 hc6 ⊢
          have hR9 : R < 1000000000 := by omega
          have HXQ := Lib.hid (show X = Q * 1000000000 + R by omega)
          have hQl : (canN Q).length ≤ 100000 := by rw [hQ]; exact Nat.le_trans (canN_mono (Nat.div_le_self _ _)) hx3
          have HQX := Lib.hid (show Q < X by have := HX0.out; omega)
          clear hQ hR hA5 hc5 hb_w5
          have goal : ∃ xv : Int, xv = (R : Int) := ⟨_, rfl⟩
          by_cases hR0 : R = 0
          · subst hR0
            have hr0 : (canN 0).length = 0 := by rw [canN_zero]; rfl
            simp only [hr0]
            clear hA6 hc6 goal
            go_wp2_with fail
            obtain ⟨lq, hlq⟩ : ∃ q, q = (canN Q).length := ⟨_, rfl⟩
            rw [← hlq]
            have HLQ := Lib.hid hlq
            rw [← hlq] at hQl
            clear hlq
            go_loopw [5, 8, 9] (fun vs vx vk ws => ∃ (k : Nat) (x : Int) (lo2 : List Int), k ≤ 9 ∧ 0 ≤ x ∧ x < 1000000000 ∧ vk = .int .i64 k ∧ vx = .int .u32 x ∧ vs = .string (strOf lo2.reverse) ∧ lo2.length ≤ 1000000 ∧ Hid (x.toNat < 10 ^ (9 - k) ∧ digR Z = lo2 ++ digR (Q * 10 ^ (9 - k) + x.toNat)) ∧ Below w5.heap.size w5 ws) (fun _ _ vk _ => 9 - (intOf vk).toNat)
            case atStart => exact ⟨0, 0, lo, by omega, by omega, by omega, rfl, rfl, rfl, hlo, Lib.hid ⟨by omega, by rw [HR.out.2]; exact congrArg (lo ++ digR ·) HXQ.out⟩, Below.refl _ _⟩
            case round =>
              obtain ⟨k, x, lo2, hk, x0, x1, rfl, rfl, rfl, hlo2, HD, hbel⟩ := hrel
              have HB6 := Lib.hid hbel
              have hz6 := hbel.size
              have k0 : (0 : Int) ≤ (k : Int) := by omega
              clear hbel
              obtain ⟨dv, hdv⟩ : ∃ dv : Int, dv = 48 + x % 10 := ⟨_, rfl⟩
              have hdv2 : 48 + x % 10 = dv := hdv.symm
              have d0 : 0 ≤ dv := by omega
              have d1 : dv < 58 := by omega
              have hdvN : dv = ((48 + x.toNat % 10 : Nat) : Int) := by omega
              have hxd : (x / 10).toNat = x.toNat / 10 := by omega
              have HST : Hid (k < 9 → (0 < x ∨ 0 < lq) → (digR Z = (lo2 ++ [dv]) ++ digR (Q * 10 ^ (9 - (k + 1)) + (x / 10).toNat) ∧ (x / 10).toNat < 10 ^ (9 - (k + 1))) ∧ lo2.length + 1 ≤ 1000000) := Lib.hid (fun hk9 hxq => by
                obtain ⟨m, hm⟩ : ∃ m, 9 - k = m + 1 := ⟨8 - k, by omega⟩
                have hm2 : 9 - (k + 1) = m := by omega
                obtain ⟨h0, h1⟩ := HD.out
                rw [hm] at h0 h1
                have hpos : 0 < Q * 10 ^ (m + 1) + x.toNat := by
                  rcases hxq with h | h
                  · omega
                  · have hQ0 : 0 < Q := by
                      rcases Nat.eq_zero_or_pos Q with e | e
                      · rw [HLQ.out, e, canN_zero] at h; simp at h
                      · exact e
                    have := Nat.mul_pos hQ0 (Nat.pow_pos (n := m + 1) (by decide : 0 < 10))
                    omega
                rw [digR_step hpos] at h1
                rw [hm2, hxd]
                have h2 : digR Z = (lo2 ++ [dv]) ++ digR (Q * 10 ^ m + x.toNat / 10) := by rw [h1, List.append_assoc, hdvN]; rfl
                refine ⟨⟨h2, by rw [Nat.pow_succ] at h0; omega⟩, ?_⟩
                have h3 := congrArg List.length h2
                rw [List.length_append, List.length_append] at h3
                simp at h3
                omega)
              have stop : Hid ((k = 9 ∨ (x = 0 ∧ lq = 0)) → digR Z = lo2 ++ digR Q) := Lib.hid (fun h => by
                obtain ⟨h0, h1⟩ := HD.out
                rcases h with h | ⟨h, h'⟩
                · subst h
                  have hxl : x.toNat = 0 := by simpa using h0
                  rw [hxl] at h1
                  simpa using h1
                · have hq0 := canN_len0.1 (HLQ.out.symm.trans h')
                  rw [h, hq0, Nat.zero_mul, show (0 : Int).toNat = 0 from rfl, Nat.add_zero] at h1
                  rw [hq0]; exact h1)
              have hsz : ¬ (strOf [dv]).size + (strOf lo2.reverse).size > 9223372036854775807 := by
                rw [strOf_size, strOf_size, List.length_reverse]; show ¬ 1 + _ > _; omega
              have hap := strOf_snoc lo2 dv
              clear hdv hdvN hxd HD
              have hcv := run_bytes_string (wr.alloc (.cells #[.int .u8 dv] 5)) wr.heap.size 1 1 [dv] (by intro y hy; simp at hy; omega) rfl (by intro j y hy; rcases j with _ | j <;> simp at hy; subst hy; clear hap hsz hdv2; go_simp)
              by_cases hk9 : k < 9
              · have j7 : (k : Int) < 9 := by omega
                have j8 : decide ((k : Int) < 9) = true := decide_eq_true j7
                by_cases hx0 : 0 < x
                · have j10 : decide (0 < x) = true := decide_eq_true hx0
                  have hfin := HST.out hk9 (.inl hx0)
                  have HFN := Lib.hid hfin
                  clear hfin HST stop
                  go_wp2_with fail
                  go_roundw
                  case rel => exact ⟨k + 1, x / 10, lo2 ++ [dv], by omega, by omega, by omega, by go_num, by go_num, by first | rfl | (rw [hap]; done) | (rw [List.reverse_append]; rfl), by have h5 := HFN.out.2; rw [List.length_append]; exact h5, Lib.hid ⟨HFN.out.1.2, HFN.out.1.1⟩, by have hb := HB6.out; ((with_reducible (repeat (first | exact bR _ _ | refine bS ?_ ?_ _ | refine bA ?_ ?_ _ | refine bD ?_ | refine bT ?_ (by assumption) ?_ | refine bO (by assumption) ?_ ?_))) <;> (first | omega | (simp; done) | (simp <;> omega)))⟩
                  case measure => simp [intOf]; omega
                · have j10 : decide (0 < x) = false := decide_eq_false hx0
                  by_cases hq0 : lq = 0
                  · have hfin := stop.out (.inr ⟨by omega, hq0⟩)
                    have HFN := Lib.hid hfin
                    subst hq0
                    clear hfin HST stop hcv hsz hap
                    go_wp2_with fail
                    go_roundg Q
                    case measure => exact HQX.out
                    case rel => exact ⟨Q, lo2, A5, c5, rfl, by rw [← HLQ.out], rfl, HC5.out, by rw [← HLQ.out]; omega, Lib.hid ⟨HA5.out.below HB6.out, HFN.out⟩, HB5.out.trans (HB6.out.mono hz5)⟩
                  · have j11 : (0 : Int) < (lq : Int) := by omega
                    have j12 : 0 < lq := by omega
                    have hfin := HST.out hk9 (.inr (by omega))
                    have HFN := Lib.hid hfin
                    clear hfin HST stop
                    go_wp2_with fail
                    go_roundw
                    case rel => exact ⟨k + 1, x / 10, lo2 ++ [dv], by omega, by omega, by omega, by go_num, by go_num, by first | rfl | (rw [hap]; done) | (rw [List.reverse_append]; rfl), by have h5 := HFN.out.2; rw [List.length_append]; exact h5, Lib.hid ⟨HFN.out.1.2, HFN.out.1.1⟩, by have hb := HB6.out; ((with_reducible (repeat (first | exact bR _ _ | refine bS ?_ ?_ _ | refine bA ?_ ?_ _ | refine bD ?_ | refine bT ?_ (by assumption) ?_ | refine bO (by assumption) ?_ ?_))) <;> (first | omega | (simp; done) | (simp <;> omega)))⟩
                    case measure => simp [intOf]; omega
              · have j7 : ¬ (k : Int) < 9 := by omega
                have j8 : decide ((k : Int) < 9) = false := decide_eq_false j7
                have hfin := stop.out (.inl (by omega))
                have HFN := Lib.hid hfin
                clear hfin HST stop hcv hsz hap
                go_wp2_with fail
                go_roundg Q
                case measure => exact HQX.out
                case rel => exact ⟨Q, lo2, A5, c5, rfl, by rw [← HLQ.out], rfl, HC5.out, by rw [← HLQ.out]; omega, Lib.hid ⟨HA5.out.below HB6.out, HFN.out⟩, HB5.out.trans (HB6.out.mono hz5)⟩
          · have hr1 : canN R = [(R : Int)] := canN_one hR0 (by omega)
            rw [hr1] at hA6 hc6 ⊢
            obtain ⟨g6, o6, rfl, hg6, hc60⟩ := hA6 0 _ rfl
            rw [Nat.add_zero] at hc60
            have j6 : (1 : Int) ≤ (c6 : Int) := by simp at hc6; omega
            clear hA6 hc6 goal
            simp only [List.length_cons, List.length_nil]
            go_wp2_with fail
            obtain ⟨lq, hlq⟩ : ∃ q, q = (canN Q).length := ⟨_, rfl⟩
            rw [← hlq]
            have HLQ := Lib.hid hlq
            rw [← hlq] at hQl
            clear hlq
            go_loopw [5, 8, 9] (fun vs vx vk ws => ∃ (k : Nat) (x : Int) (lo2 : List Int), k ≤ 9 ∧ 0 ≤ x ∧ x < 1000000000 ∧ vk = .int .i64 k ∧ vx = .int .u32 x ∧ vs = .string (strOf lo2.reverse) ∧ lo2.length ≤ 1000000 ∧ Hid (x.toNat < 10 ^ (9 - k) ∧ digR Z = lo2 ++ digR (Q * 10 ^ (9 - k) + x.toNat)) ∧ Below w5.heap.size w5 ws) (fun _ _ vk _ => 9 - (intOf vk).toNat)
            case atStart => exact ⟨0, R, lo, by omega, by omega, by omega, rfl, rfl, rfl, hlo, Lib.hid ⟨by omega, by rw [HR.out.2]; exact congrArg (lo ++ digR ·) HXQ.out⟩, Below.refl _ _⟩
            case round =>
              obtain ⟨k, x, lo2, hk, x0, x1, rfl, rfl, rfl, hlo2, HD, hbel⟩ := hrel
              have HB6 := Lib.hid hbel
              have hz6 := hbel.size
              have k0 : (0 : Int) ≤ (k : Int) := by omega
              clear hbel
              obtain ⟨dv, hdv⟩ : ∃ dv : Int, dv = 48 + x % 10 := ⟨_, rfl⟩
              have hdv2 : 48 + x % 10 = dv := hdv.symm
              have d0 : 0 ≤ dv := by omega
              have d1 : dv < 58 := by omega
              have hdvN : dv = ((48 + x.toNat % 10 : Nat) : Int) := by omega
              have hxd : (x / 10).toNat = x.toNat / 10 := by omega
              have HST : Hid (k < 9 → (0 < x ∨ 0 < lq) → (digR Z = (lo2 ++ [dv]) ++ digR (Q * 10 ^ (9 - (k + 1)) + (x / 10).toNat) ∧ (x / 10).toNat < 10 ^ (9 - (k + 1))) ∧ lo2.length + 1 ≤ 1000000) := Lib.hid (fun hk9 hxq => by
                obtain ⟨m, hm⟩ : ∃ m, 9 - k = m + 1 := ⟨8 - k, by omega⟩
                have hm2 : 9 - (k + 1) = m := by omega
                obtain ⟨h0, h1⟩ := HD.out
                rw [hm] at h0 h1
                have hpos : 0 < Q * 10 ^ (m + 1) + x.toNat := by
                  rcases hxq with h | h
                  · omega
                  · have hQ0 : 0 < Q := by
                      rcases Nat.eq_zero_or_pos Q with e | e
                      · rw [HLQ.out, e, canN_zero] at h; simp at h
                      · exact e
                    have := Nat.mul_pos hQ0 (Nat.pow_pos (n := m + 1) (by decide : 0 < 10))
                    omega
                rw [digR_step hpos] at h1
                rw [hm2, hxd]
                have h2 : digR Z = (lo2 ++ [dv]) ++ digR (Q * 10 ^ m + x.toNat / 10) := by rw [h1, List.append_assoc, hdvN]; rfl
                refine ⟨⟨h2, by rw [Nat.pow_succ] at h0; omega⟩, ?_⟩
                have h3 := congrArg List.length h2
                rw [List.length_append, List.length_append] at h3
                simp at h3
                omega)
              have stop : Hid ((k = 9 ∨ (x = 0 ∧ lq = 0)) → digR Z = lo2 ++ digR Q) := Lib.hid (fun h => by
                obtain ⟨h0, h1⟩ := HD.out
                rcases h with h | ⟨h, h'⟩
                · subst h
                  have hxl : x.toNat = 0 := by simpa using h0
                  rw [hxl] at h1
                  simpa using h1
                · have hq0 := canN_len0.1 (HLQ.out.symm.trans h')
                  rw [h, hq0, Nat.zero_mul, show (0 : Int).toNat = 0 from rfl, Nat.add_zero] at h1
                  rw [hq0]; exact h1)
              have hsz : ¬ (strOf [dv]).size + (strOf lo2.reverse).size > 9223372036854775807 := by
                rw [strOf_size, strOf_size, List.length_reverse]; show ¬ 1 + _ > _; omega
              have hap := strOf_snoc lo2 dv
              clear hdv hdvN hxd HD
              have hcv := run_bytes_string (wr.alloc (.cells #[.int .u8 dv] 5)) wr.heap.size 1 1 [dv] (by intro y hy; simp at hy; omega) rfl (by intro j y hy; rcases j with _ | j <;> simp at hy; subst hy; clear hap hsz hdv2; go_simp)
              by_cases hk9 : k < 9
              · have j7 : (k : Int) < 9 := by omega
                have j8 : decide ((k : Int) < 9) = true := decide_eq_true j7
                by_cases hx0 : 0 < x
                · have j10 : decide (0 < x) = true := decide_eq_true hx0
                  have hfin := HST.out hk9 (.inl hx0)
                  have HFN := Lib.hid hfin
                  clear hfin HST stop
                  go_wp2_with fail
                  go_roundw
                  case rel => exact ⟨k + 1, x / 10, lo2 ++ [dv], by omega, by omega, by omega, by go_num, by go_num, by first | rfl | (rw [hap]; done) | (rw [List.reverse_append]; rfl), by have h5 := HFN.out.2; rw [List.length_append]; exact h5, Lib.hid ⟨HFN.out.1.2, HFN.out.1.1⟩, by have hb := HB6.out; ((with_reducible (repeat (first | exact bR _ _ | refine bS ?_ ?_ _ | refine bA ?_ ?_ _ | refine bD ?_ | refine bT ?_ (by assumption) ?_ | refine bO (by assumption) ?_ ?_))) <;> (first | omega | (simp; done) | (simp <;> omega)))⟩
                  case measure => simp [intOf]; omega
                · have j10 : decide (0 < x) = false := decide_eq_false hx0
                  by_cases hq0 : lq = 0
                  · have hfin := stop.out (.inr ⟨by omega, hq0⟩)
                    have HFN := Lib.hid hfin
                    subst hq0
                    clear hfin HST stop hcv hsz hap
                    go_wp2_with fail
                    go_roundg Q
                    case measure => exact HQX.out
                    case rel => exact ⟨Q, lo2, A5, c5, rfl, by rw [← HLQ.out], rfl, HC5.out, by rw [← HLQ.out]; omega, Lib.hid ⟨HA5.out.below HB6.out, HFN.out⟩, HB5.out.trans (HB6.out.mono hz5)⟩
                  · have j11 : (0 : Int) < (lq : Int) := by omega
                    have j12 : 0 < lq := by omega
                    have hfin := HST.out hk9 (.inr (by omega))
                    have HFN := Lib.hid hfin
                    clear hfin HST stop
                    go_wp2_with fail
                    go_roundw
                    case rel => exact ⟨k + 1, x / 10, lo2 ++ [dv], by omega, by omega, by omega, by go_num, by go_num, by first | rfl | (rw [hap]; done) | (rw [List.reverse_append]; rfl), by have h5 := HFN.out.2; rw [List.length_append]; exact h5, Lib.hid ⟨HFN.out.1.2, HFN.out.1.1⟩, by have hb := HB6.out; ((with_reducible (repeat (first | exact bR _ _ | refine bS ?_ ?_ _ | refine bA ?_ ?_ _ | refine bD ?_ | refine bT ?_ (by assumption) ?_ | refine bO (by assumption) ?_ ?_))) <;> (first | omega | (simp; done) | (simp <;> omega)))⟩
                    case measure => simp [intOf]; omega
              · have j7 : ¬ (k : Int) < 9 := by omega
                have j8 : decide ((k : Int) < 9) = false := decide_eq_false j7
                have hfin := stop.out (.inl (by omega))
                have HFN := Lib.hid hfin
                clear hfin HST stop hcv hsz hap
                go_wp2_with fail
                go_roundg Q
                case measure => exact HQX.out
                case rel => exact ⟨Q, lo2, A5, c5, rfl, by rw [← HLQ.out], rfl, HC5.out, by rw [← HLQ.out]; omega, Lib.hid ⟨HA5.out.below HB6.out, HFN.out⟩, HB5.out.trans (HB6.out.mono hz5)⟩
  · have HE := Lib.hid (show textE a = (⟨#[]⟩, 2) by unfold textE; rw [← hq]; rfl)
    rw [HE.out]
    clear hq HE
    go_enter Tryd.func60, Tryd.ntmps60; (try simp only [List.append_eq, List.cons_append, List.nil_append])
    go_wp2_with fail
    -- own blocks: w.heap.size:2
    (go_at_call 68; refine (HLG.out _ (by ((with_reducible (repeat (first | exact bR _ _ | refine bS ?_ ?_ _ | refine bA ?_ ?_ _ | refine bD ?_ | refine bT ?_ (by assumption) ?_ | refine bO (by assumption) ?_ ?_))) <;> (first | omega | (simp; done) | (simp <;> omega))))).mono ?_; rintro e w1 ⟨rfl, hb_w1⟩; have hz_w1 := hb_w1.size; (try simp at hz_w1); (with_reducible apply cel2 (b := w.heap.size) hb_w1); (focus ((try simp) <;> omega)); (focus omega); (focus (go_simp; try exact rfl)); (focus (go_simp; try exact rfl)); (focus (intro o; go_simp)); intro cc cc fz hl)
    have HB1 := Lib.hid (show Below w.heap.size w w1 by ((with_reducible (repeat (first | exact bR _ _ | refine bS ?_ ?_ _ | refine bA ?_ ?_ _ | refine bD ?_ | refine bT ?_ (by assumption) ?_ | refine bO (by assumption) ?_ ?_))) <;> (first | omega | (simp; done) | (simp <;> omega))))
    clear hb_w1
    go_wp2_with fail
    go_ret2
    exact ⟨rfl, HB1.out⟩
theorem digR_dec : ∀ u : Nat, u ≠ 0 → ((digR u).reverse.map fun x => UInt8.ofNat x.toNat) = Lib.decDigits u := by
  intro u
  induction u using Nat.strongRecOn with
  | _ u ih =>
    intro h0
    rw [digR_pos h0, List.reverse_cons, List.map_append]
    by_cases h : u < 10
    · rw [Nat.div_eq_of_lt h, digR_zero, Lib.decDigits_one h, Nat.mod_eq_of_lt h]
      simp only [List.reverse_nil, List.map_nil, List.map_cons, List.nil_append, Int.toNat_natCast]
    · rw [Lib.decDigits, dif_neg h, ih (u / 10) (by omega) (by omega)]
      simp only [List.map_cons, List.map_nil, Int.toNat_natCast]
theorem textE_itoa {n : Int} (h1 : -9223372036854775808 ≤ n) (h2 : n ≤ 9223372036854775807) : textE n = (⟨(Lib.itoa n).toArray⟩, 0) := by
  have hl : lgB n = false := by
    unfold lgB
    refine decide_eq_false ?_
    have : (canN n.natAbs).length ≤ 2 := canN_len.2 (by rw [show PB 2 = 18446744073709551616 by decide]; omega)
    omega
  unfold textE
  rw [hl]
  simp only [Bool.false_eq_true, if_false]
  congr 1
  unfold strOf textR
  congr 2
  by_cases h0 : n = 0
  · subst h0
    rw [if_pos rfl, show (0 : Int) = ((0 : Nat) : Int) from rfl, Lib.itoa_nonneg, Lib.decDigits_one (by decide)]
    rfl
  · rw [if_neg h0, List.map_append, digR_dec _ (by omega)]
    unfold Lib.itoa
    by_cases hn : n < 0
    · rw [if_pos hn, if_pos hn]
      rfl
    · rw [if_neg hn, if_neg hn, show n.natAbs = n.toNat by omega]
      rfl
set_option maxRecDepth 100000 in
set_option maxHeartbeats 2000000 in
theorem digits_any (n : Int) (w : World) (h1 : -9223372036854775808 ≤ n) (h2 : n ≤ 9223372036854775807) :
    Calls Tryd.prog 52 #[.int .i64 n] w fun e w' => e = .returned (.string ⟨(Lib.itoa n).toArray⟩) ∧ Below w.heap.size w w' := by
  have hT := textE_itoa h1 h2
  have KT := fun (W : World) (v : Value) (h : IsC W v n) => by have := rtext_any 2 v n W (h.zl (canN_len.2 (by rw [show PB 2 = 18446744073709551616 by decide]; omega))) (by omega); rw [hT] at this; exact this
  clear hT
  go_enter Tryd.func52, Tryd.ntmps52; (try simp only [List.append_eq, List.cons_append, List.nil_append])
  go_wp2_with fail
  (go_at_call 61; refine (of_any _ _ h1 h2).mono ?_; rintro e w1 ⟨hb1, v1, rfl, hv1⟩)
  go_wp2_with fail
  (go_at_call 60; refine (KT _ _ hv1).mono ?_; rintro e w2 ⟨rfl, hb2⟩)
  go_wp2_with fail
  go_ret
  exact ⟨rfl, hb1.trans (hb2.mono hb1.size)⟩
end Go.Proofs.YteondblmcooklaaDoor
