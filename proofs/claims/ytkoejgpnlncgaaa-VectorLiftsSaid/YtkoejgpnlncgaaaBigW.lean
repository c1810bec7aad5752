/- Limbs in memory: what a slice of limbs reads as; append and make of limbs. No function of the program in sight. -/
import Derived.Test.YtkoejgpnlncgaaaBig
import Derived.Test.YtkoejgpnlncgaaaDraw
import Derived.Test.YtkoejgpnlncgaaaProg
import Derived.WalkKit
import Derived.WalkSpells
import Derived.WalkLawsBesides
import Derived.Outline
import Derived.Lib.Hide
import Derived.IntWalk
import Derived.Maps.AppendAt
import Derived.Deep.AppendLies
import Derived.Deep.OwnRows
namespace Go.Proofs.Ytkoejgpnlncgaaa
open Go Go.RowKit
set_option linter.unusedVariables false
/-- The address leads to these limbs. -/
def LAt (w : World) (A : Option Addr) (l : List Int) : Prop := ∀ k x, l[k]? = some x → ∃ g o, A = some ⟨g, o, none⟩ ∧ g < w.heap.size ∧ w.cell? ⟨g, o + k, none⟩ = some (.int .u32 x)
theorem LAt.nil (w : World) (A : Option Addr) : LAt w A [] := fun k x h => by simp at h
theorem LAt.below {w w1 : World} {A : Option Addr} {l : List Int} (h : LAt w A l) (hb : Below w.heap.size w w1) : LAt w1 A l := by
  intro k x hx
  obtain ⟨g, o, hA, hg, hc⟩ := h k x hx
  exact ⟨g, o, hA, Nat.lt_of_lt_of_le hg hb.size, by rw [hb.cell (by simpa using hg)]; exact hc⟩
theorem LAt.own {w w1 : World} {A : Option Addr} {l : List Int} {N : Nat} (h : LAt w A l) (hb : Own N w w1) (hN : w.heap.size ≤ N) : LAt w1 A l := h.below (hb.2.mono hN)
theorem LAt.cl (A : Option Addr) (l : List Int) : Cl (fun w => LAt w A l) := fun _ _ h hb => h.below hb
theorem LAt.drew {w : World} {A : Option Addr} {l : List Int} (h : LAt w A l) : LAt w.drew A l := h
theorem LAt.alloc {w : World} {A : Option Addr} {l : List Int} (h : LAt w A l) (o : Obj) : LAt (w.alloc o) A l := h.below ((Below.refl _ _).alloc (Nat.le_refl _) _)
theorem LAt.take {w : World} {A : Option Addr} {l : List Int} (h : LAt w A l) (n : Nat) : LAt w A (l.take n) := by
  intro k x hx
  rw [List.getElem?_take] at hx
  split at hx
  · exact h k x hx
  · cases hx
theorem LAt.at_ {w : World} {A : Option Addr} {l : List Int} (h : LAt w A l) {k : Nat} {x : Int} (hx : l[k]? = some x) : ∃ g o, A = some ⟨g, o, none⟩ ∧ g < w.heap.size ∧ w.cell? ⟨g, o + k, none⟩ = some (.int .u32 x) := h k x hx
/-- A store where no limb was. -/
theorem LAt.setCell {w : World} {A : Option Addr} {l : List Int} (h : LAt w A l) {p : Addr} {u : Value} (hp : w.cell? p = some u) (hu : ∀ x, u ≠ .int .u32 x) (v : Value) : LAt (w.setCell p v) A l := by
  intro k x hx
  obtain ⟨g, o, hA, hg, hc⟩ := h k x hx
  refine ⟨g, o, hA, by simpa [World.setCell] using hg, ?_⟩
  rw [World.cell?_setCell_other w p _ v (fun e => by
    subst e
    rw [hc] at hp
    exact hu x (Option.some.inj hp).symm)]
  exact hc
theorem LAt.set2 {w : World} {A : Option Addr} {l : List Int} (h : LAt w A l) {b : Nat} {b0 : Bool} {a : Option Addr} {n c : Nat} (h0 : w.cell? ⟨b, 0, none⟩ = some (.bool b0)) (h1 : w.cell? ⟨b, 1, none⟩ = some (.slice a n c)) (x y : Value) :
    LAt ((w.setCell ⟨b, 0, none⟩ x).setCell ⟨b, 1, none⟩ y) A l := by
  refine (h.setCell h0 (fun _ e => by cases e) x).setCell (u := .slice a n c) ?_ (fun _ e => by cases e) y
  rw [World.cell?_setCell_other w _ _ x (fun e => by simp at e)]
  exact h1
theorem LAt.grown {w w1 : World} {A : Option Addr} {l : List Int} {row : Option Nat} (h : LAt w A l) (hg : w.grownBy w1 row) (hne : ∀ g o, A = some ⟨g, o, none⟩ → some g ≠ row) : LAt w1 A l := by
  intro k x hx
  obtain ⟨g, o, hA, hlt, hc⟩ := h k x hx
  exact ⟨g, o, hA, Nat.lt_of_lt_of_le hlt hg.size, by rw [World.cell?_of_block (hg.block g hlt (hne g o hA))]; exact hc⟩
/-- A row of limbs that the call owns. -/
def OwnL (w : World) (base : Nat) (v : Value) (l : List Int) : Prop := w.ownsRow base 87 1 v l.length (l.map (Value.int .u32))
theorem OwnL.nil (w : World) (base : Nat) : OwnL w base (.slice none 0 0) [] := World.ownsRow_nil _ _ _ _
theorem OwnL.fresh {w : World} {base : Nat} {v : Value} {l : List Int} (h : OwnL w base v l) : ∀ k, v.ownBlock = some k → base ≤ k := fun k hk => (World.ownsRow.lt h k hk).1
theorem OwnL.alloc {w : World} {base : Nat} {v : Value} {l : List Int} (h : OwnL w base v l) (o : Obj) : OwnL (w.alloc o) base v l := World.ownsRow.alloc h o
theorem OwnL.below {w w1 : World} {base : Nat} {v : Value} {l : List Int} (h : OwnL w base v l) (hb : Below w.heap.size w w1) : OwnL w1 base v l := by
  obtain ⟨h1, h2⟩ := h
  refine ⟨h1, ?_⟩
  rcases h2 with h2 | ⟨g, cap, cur, hv, hg, hh, r⟩
  · exact .inl h2
  · refine .inr ⟨g, cap, cur, hv, hg, ?_, r⟩
    have hlt : g < w.heap.size := (Array.getElem?_eq_some_iff.1 hh).1
    rw [hb.block _ hlt]; exact hh
theorem OwnL.setCell {w : World} {base : Nat} {v : Value} {l : List Int} (h : OwnL w base v l) {p : Addr} (hp : p.block < base) (u : Value) : OwnL (w.setCell p u) base v l := ownsRow_setCell_below h hp u
theorem OwnL.weak {w : World} {base base' : Nat} {v : Value} {l : List Int} (h : OwnL w base v l) (hb : base' ≤ base) : OwnL w base' v l := by
  obtain ⟨h1, h2⟩ := h
  refine ⟨h1, ?_⟩
  rcases h2 with h2 | ⟨g, cap, cur, hv, hg, r⟩
  · exact .inl h2
  · exact .inr ⟨g, cap, cur, hv, by omega, r⟩
theorem OwnL.cl (base : Nat) (v : Value) (l : List Int) : Cl (fun w => OwnL w base v l) := fun _ _ h hb => h.below hb
theorem OwnL.lat {w : World} {base : Nat} {A : Option Addr} {n c : Nat} {l : List Int} (h : OwnL w base (.slice A n c) l) : LAt w A l := by
  rcases h.2 with ⟨hv, h0⟩ | ⟨g, cap, cur, hv, hb, hh, hc, hm, hs, ht⟩
  · have hl := List.length_eq_zero_iff.1 h0
    subst hl
    exact LAt.nil _ _
  · have hA : A = some ⟨g, 0, none⟩ := by injection hv
    subst hA
    refine fun k x hx => ⟨g, 0, rfl, (Array.getElem?_eq_some_iff.1 hh).1, ?_⟩
    have hcell := World.ownsRow.cells h (g := g) rfl k (.int .u32 x) (by rw [List.getElem?_map, hx]; rfl)
    unfold Addr.add at hcell
    split at hcell
    · rename_i h0; rw [h0]; exact hcell
    · exact hcell
/-- From an owned row. -/
theorem lat_of_own {w : World} {base : Nat} {v : Value} {l : List Int} (h : OwnL w base v l) :
    ∃ A c, v = .slice A l.length c ∧ l.length ≤ c ∧ c ≤ maxLen ∧ LAt w A l := by
  rcases h.2 with ⟨hv, h0⟩ | ⟨g, cap, cur, hv, hb, hh, hc, hm, hs, ht⟩
  · have hl := List.length_eq_zero_iff.1 h0
    subst hl
    exact ⟨none, 0, hv, Nat.le_refl _, Nat.zero_le _, LAt.nil _ _⟩
  · refine ⟨some ⟨g, 0, none⟩, cap, hv, hc, hm, fun k x hx => ⟨g, 0, rfl, (Array.getElem?_eq_some_iff.1 hh).1, ?_⟩⟩
    have hcell := World.ownsRow.cells h (g := g) (by rw [hv]; rfl) k (.int .u32 x) (by rw [List.getElem?_map, hx]; rfl)
    unfold Addr.add at hcell
    split at hcell
    · rename_i h0; rw [h0]; exact hcell
    · exact hcell
theorem limbInfo : (Try.prog.info? 87).map (fun i => (i.zero, i.size, i.bytes)) = some (some (.int .u32 0), 1, 4) := by kernel_rfl
theorem run_append_limbs (w : World) (base : Nat) (ty : TypeId) (v : Value) (n : Nat) (xs : List Value) (hown : w.ownsRow base 87 1 v n xs)
    (A : Option Addr) (c : Nat) (l : List Int) (hA : LAt w A l) (h63 : n + l.length ≤ maxLen) (hbytes : (n + l.length) * 4 ≤ 140737488355328) (hbase : base ≤ w.heap.size) :
    ∃ v' w', (Builtin.append_ #[63, 63] ty #[v, .slice A l.length c]).run Try.prog w = .ok v' w' ∧ w'.ownsRow base 87 1 v' (n + l.length) (xs ++ l.map (Value.int .u32)) ∧ w.grownBy w' v.ownBlock ∧ (v'.ownBlock = v.ownBlock ∨ v'.ownBlock = some w.heap.size) := by
  obtain ⟨i, hi, hz, hs, hb⟩ := info_parts limbInfo
  by_cases h0 : l = []
  · subst h0
    cases A with
    | none =>
      refine ⟨v, w, ?_, by simpa using hown, World.grownBy.refl w _, .inl rfl⟩
      rcases hown.2 with ⟨rfl, rfl⟩ | ⟨g, cap, cur, rfl, _, _, hnc, _⟩
      · simp [Builtin.append_, run_underlying Try.underlying63, sizeOf, typeInfo, hi, Builtin.lenOf, Builtin.firstCells]
      · simp [Builtin.append_, run_underlying Try.underlying63, sizeOf, typeInfo, hi, Builtin.lenOf, Builtin.firstCells, hnc, storeCells]
    | some a =>
      obtain ⟨v', w', h1, h2, h3, _, h5⟩ := run_append_own_at (P := Try.prog) w base 63 ty 87 i _ 1 4 Try.underlying63 hi hz hs hb rfl (by decide) v n xs hown a 0 c [] (by simp) (by simp) (by simp) (by simpa using h63) (by simpa using hbytes) hbase
      exact ⟨v', w', h1, by simpa using h2, h3, h5⟩
  · obtain ⟨x, hx⟩ : ∃ x, l[0]? = some x := by
      cases l with
      | nil => exact absurd rfl h0
      | cons x l => exact ⟨x, rfl⟩
    obtain ⟨g, o, rfl, _, _⟩ := hA 0 x hx
    obtain ⟨v', w', h1, h2, h3, _, h5⟩ := run_append_own_at (P := Try.prog) w base 63 ty 87 i _ 1 4 Try.underlying63 hi hz hs hb rfl (by decide) v n xs hown ⟨g, o, none⟩ l.length c (l.map (Value.int .u32)) (by simp) (fun j u hu => by
      rw [List.getElem?_map] at hu
      obtain ⟨y, hy, rfl⟩ := Option.map_eq_some_iff.1 hu
      obtain ⟨g', o', he, _, hc⟩ := hA j y hy
      simp only [Option.some.injEq, Addr.mk.injEq] at he
      obtain ⟨rfl, rfl, _⟩ := he
      unfold Addr.add
      split
      · rename_i h; rw [h, Nat.add_zero] at hc; exact hc
      · exact hc) (fun u hu => by obtain ⟨y, _, rfl⟩ := List.mem_map.1 hu; rfl) h63 hbytes hbase
    exact ⟨v', w', h1, h2, h3, h5⟩
/-- 'append(v, x...)', v a row of the call's own (or nil), x any limbs. -/
theorem wpList_append_limbs {w : World} {ops : Array Oper} {rest : List Oper} {o : Oper} {a : Act} {Q : Exit → Act → World → Prop} (hgd : o.guard = none) (s x : Operand)
    (ho : o.op = .call { callee := .builtin .append, args := #[s, x], argTypes := #[63, 63] })
    (base : Nat) (v : Value) (xs : List Int) (hs : a.eval s = v) (hown : OwnL w base v xs)
    (A : Option Addr) (c : Nat) (l : List Int) (hx : a.eval x = .slice A l.length c) (hA : LAt w A l) (h63 : xs.length + l.length ≤ 1000000000) (hbase : base ≤ w.heap.size)
    (h : ∀ v' w', OwnL w' base v' (xs ++ l) → w.grownBy w' v.ownBlock → wpList Try.prog ops Q rest (a.put o.dst v') w') : wpList Try.prog ops Q (o :: rest) a w := by
  refine wpList_plain hgd fun K hK => ?_
  obtain ⟨v', w', hrun, h2, h3, _⟩ := run_append_limbs w base o.type v _ _ hown A c l hA (by unfold maxLen; omega) (by omega) hbase
  unfold Oper.wp execOp
  simp only [ho, resolve, invoke, builtin, Sem.run_bind, Sem.run_pure, Result.andThen_ok, List.map_toArray, List.map_cons, List.map_nil, hs, hx, hrun]
  exact hK _ _ (h v' w' (by unfold OwnL; rw [List.length_append, List.map_append]; exact h2) h3)
/-- .. and where the new row lies. -/
theorem wpList_append_limbs2 {w : World} {ops : Array Oper} {rest : List Oper} {o : Oper} {a : Act} {Q : Exit → Act → World → Prop} (hgd : o.guard = none) (s x : Operand)
    (ho : o.op = .call { callee := .builtin .append, args := #[s, x], argTypes := #[63, 63] })
    (base : Nat) (v : Value) (xs : List Int) (hs : a.eval s = v) (hown : OwnL w base v xs)
    (A : Option Addr) (c : Nat) (l : List Int) (hx : a.eval x = .slice A l.length c) (hA : LAt w A l) (h63 : xs.length + l.length ≤ 1000000000) (hbase : base ≤ w.heap.size)
    (h : ∀ v' w', OwnL w' base v' (xs ++ l) → w.grownBy w' v.ownBlock → (v'.ownBlock = v.ownBlock ∨ v'.ownBlock = some w.heap.size) → wpList Try.prog ops Q rest (a.put o.dst v') w') : wpList Try.prog ops Q (o :: rest) a w := by
  refine wpList_plain hgd fun K hK => ?_
  obtain ⟨v', w', hrun, h2, h3, h5⟩ := run_append_limbs w base o.type v _ _ hown A c l hA (by unfold maxLen; omega) (by omega) hbase
  unfold Oper.wp execOp
  simp only [ho, resolve, invoke, builtin, Sem.run_bind, Sem.run_pure, Result.andThen_ok, List.map_toArray, List.map_cons, List.map_nil, hs, hx, hrun]
  exact hK _ _ (h v' w' (by unfold OwnL; rw [List.length_append, List.map_append]; exact h2) h3 h5)
theorem slice_head (A : Option Addr) (c n : Nat) : sliced A 0 n c 1 = .slice A n c := by
  unfold sliced
  cases A with
  | none => simp
  | some a => simp [Addr.add]
/-- The result of a function that hands back limbs. -/
def SlOut (m : Nat) (w : World) (e : Ending) (w' : World) : Prop := Below w.heap.size w w' ∧ ∃ A c, e = .returned (.slice A (canN m).length c) ∧ (canN m).length ≤ c ∧ LAt w' A (canN m)
/-- The same, the limbs the call's own. -/
def SlOwn (m : Nat) (w : World) (e : Ending) (w' : World) : Prop := Below w.heap.size w w' ∧ ∃ A c, e = .returned (.slice A (canN m).length c) ∧ (canN m).length ≤ c ∧ OwnL w' w.heap.size (.slice A (canN m).length c) (canN m)
theorem SlOwn.out {m : Nat} {w : World} {e : Ending} {w' : World} (h : SlOwn m w e w') : SlOut m w e w' := by
  obtain ⟨hb, A, c, h1, h2, h3⟩ := h
  exact ⟨hb, A, c, h1, h2, h3.lat⟩
/-- The canonical integer z at a value: its sign, its limbs. -/
def IsC (w : World) (v : Value) (z : Int) : Prop := ∃ A c, v = .agg #[.bool (decide (z < 0)), .slice A (canN z.natAbs).length c] ∧ (canN z.natAbs).length ≤ c ∧ LAt w A (canN z.natAbs)
/-- Any integer at a value: n limbs at most. -/
def IsZ (w : World) (v : Value) (n : Nat) (z : Int) : Prop := ∃ neg A c l, v = .agg #[.bool neg, .slice A l.length c] ∧ l.length ≤ c ∧ Lim l ∧ l.length ≤ n ∧ LAt w A l ∧ z = sv neg (mv l)
theorem IsC.below {w w1 : World} {v : Value} {z : Int} (h : IsC w v z) (hb : Below w.heap.size w w1) : IsC w1 v z := by
  obtain ⟨A, c, h1, h2, h3⟩ := h
  exact ⟨A, c, h1, h2, h3.below hb⟩
theorem IsC.cl (v : Value) (z : Int) : Cl (fun w => IsC w v z) := fun _ _ h hb => h.below hb
theorem IsZ.below {w w1 : World} {v : Value} {n : Nat} {z : Int} (h : IsZ w v n z) (hb : Below w.heap.size w w1) : IsZ w1 v n z := by
  obtain ⟨neg, A, c, l, h1, h2, h3, h4, h5, h6⟩ := h
  exact ⟨neg, A, c, l, h1, h2, h3, h4, h5.below hb, h6⟩
theorem IsZ.cl (v : Value) (n : Nat) (z : Int) : Cl (fun w => IsZ w v n z) := fun _ _ h hb => h.below hb
theorem IsC.z {w : World} {v : Value} {z : Int} (h : IsC w v z) (n : Nat) (hn : (z.natAbs : Int) < PB n) : IsZ w v n z := by
  obtain ⟨A, c, h1, h2, h3⟩ := h
  refine ⟨_, A, c, _, h1, h2, canN_lim _, canN_len.2 hn, h3, ?_⟩
  rw [mv_canN]
  unfold sv
  split <;> rename_i hh <;> simp at hh <;> omega
/-- The result of a function that hands back an integer. -/
def ZOut (z : Int) (w : World) (e : Ending) (w' : World) : Prop := Below w.heap.size w w' ∧ ∃ v, e = .returned v ∧ IsC w' v z
/-- The same, its limbs the call's own. -/
def ZOwn (z : Int) (w : World) (e : Ending) (w' : World) : Prop := Below w.heap.size w w' ∧ ∃ A c, e = .returned (.agg #[.bool (decide (z < 0)), .slice A (canN z.natAbs).length c]) ∧ (canN z.natAbs).length ≤ c ∧ OwnL w' w.heap.size (.slice A (canN z.natAbs).length c) (canN z.natAbs)
theorem ZOwn.out {z : Int} {w : World} {e : Ending} {w' : World} (h : ZOwn z w e w') : ZOut z w e w' := by
  obtain ⟨hb, A, c, h1, h2, h3⟩ := h
  exact ⟨hb, _, h1, A, c, rfl, h2, h3.lat⟩
theorem sv_neg_mk (neg : Bool) (l : List Int) (hl : Lim l) : ((neg && decide (0 < (canN (mv l).toNat).length)) = decide (sv neg (mv l) < 0)) ∧ (sv neg (mv l)).natAbs = (mv l).toNat := by
  have h0 := mv_nonneg hl
  have h1 := @canN_len0 (mv l).toNat
  constructor
  · cases neg
    · simp [sv]; omega
    · rw [Bool.true_and]
      apply decide_eq_decide.2
      simp only [sv, if_true]
      constructor
      · intro h
        have : (mv l).toNat ≠ 0 := fun e => by have := h1.2 e; omega
        omega
      · intro h
        rcases Nat.eq_zero_or_pos (canN (mv l).toNat).length with e | e
        · have := h1.1 e; omega
        · exact e
  · unfold sv; split <;> omega
end Go.Proofs.Ytkoejgpnlncgaaa
