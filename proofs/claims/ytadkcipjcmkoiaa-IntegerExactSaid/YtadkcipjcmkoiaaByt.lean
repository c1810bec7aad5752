/- Bytes in memory: what a slice of bytes reads as; append of bytes. No function of the program in sight. -/
import Derived.Test.YtadkcipjcmkoiaaBigX
import Derived.Laws.IdiomStrings
namespace Go.Proofs.Ytadkcipjcmkoiaa
open Go Go.RowKit
set_option linter.unusedVariables false
/-- The address leads to these limbs. -/
def BAt (w : World) (A : Option Addr) (l : List Int) : Prop := ∀ k x, l[k]? = some x → ∃ g o, A = some ⟨g, o, none⟩ ∧ g < w.heap.size ∧ w.cell? ⟨g, o + k, none⟩ = some (.int .u8 x)
theorem BAt.nil (w : World) (A : Option Addr) : BAt w A [] := fun k x h => by simp at h
theorem BAt.below {w w1 : World} {A : Option Addr} {l : List Int} (h : BAt w A l) (hb : Below w.heap.size w w1) : BAt w1 A l := by
  intro k x hx
  obtain ⟨g, o, hA, hg, hc⟩ := h k x hx
  exact ⟨g, o, hA, Nat.lt_of_lt_of_le hg hb.size, by rw [hb.cell (by simpa using hg)]; exact hc⟩
theorem BAt.own {w w1 : World} {A : Option Addr} {l : List Int} {N : Nat} (h : BAt w A l) (hb : Own N w w1) (hN : w.heap.size ≤ N) : BAt w1 A l := h.below (hb.2.mono hN)
theorem BAt.cl (A : Option Addr) (l : List Int) : Cl (fun w => BAt w A l) := fun _ _ h hb => h.below hb
theorem BAt.drew {w : World} {A : Option Addr} {l : List Int} (h : BAt w A l) : BAt w.drew A l := h
theorem BAt.alloc {w : World} {A : Option Addr} {l : List Int} (h : BAt w A l) (o : Obj) : BAt (w.alloc o) A l := h.below ((Below.refl _ _).alloc (Nat.le_refl _) _)
theorem BAt.take {w : World} {A : Option Addr} {l : List Int} (h : BAt w A l) (n : Nat) : BAt w A (l.take n) := by
  intro k x hx
  rw [List.getElem?_take] at hx
  split at hx
  · exact h k x hx
  · cases hx
theorem BAt.at_ {w : World} {A : Option Addr} {l : List Int} (h : BAt w A l) {k : Nat} {x : Int} (hx : l[k]? = some x) : ∃ g o, A = some ⟨g, o, none⟩ ∧ g < w.heap.size ∧ w.cell? ⟨g, o + k, none⟩ = some (.int .u8 x) := h k x hx
/-- A store where no limb was. -/
theorem BAt.setCell {w : World} {A : Option Addr} {l : List Int} (h : BAt w A l) {p : Addr} {u : Value} (hp : w.cell? p = some u) (hu : ∀ x, u ≠ .int .u8 x) (v : Value) : BAt (w.setCell p v) A l := by
  intro k x hx
  obtain ⟨g, o, hA, hg, hc⟩ := h k x hx
  refine ⟨g, o, hA, by simpa [World.setCell] using hg, ?_⟩
  rw [World.cell?_setCell_other w p _ v (fun e => by
    subst e
    rw [hc] at hp
    exact hu x (Option.some.inj hp).symm)]
  exact hc
theorem BAt.grown {w w1 : World} {A : Option Addr} {l : List Int} {row : Option Nat} (h : BAt w A l) (hg : w.grownBy w1 row) (hne : ∀ g o, A = some ⟨g, o, none⟩ → some g ≠ row) : BAt w1 A l := by
  intro k x hx
  obtain ⟨g, o, hA, hlt, hc⟩ := h k x hx
  exact ⟨g, o, hA, Nat.lt_of_lt_of_le hlt hg.size, by rw [World.cell?_of_block (hg.block g hlt (hne g o hA))]; exact hc⟩
/-- A row of limbs that the call owns. -/
def OwnB (w : World) (base : Nat) (v : Value) (l : List Int) : Prop := w.ownsRow base 5 1 v l.length (l.map (Value.int .u8))
theorem OwnB.nil (w : World) (base : Nat) : OwnB w base (.slice none 0 0) [] := World.ownsRow_nil _ _ _ _
theorem OwnB.fresh {w : World} {base : Nat} {v : Value} {l : List Int} (h : OwnB w base v l) : ∀ k, v.ownBlock = some k → base ≤ k := fun k hk => (World.ownsRow.lt h k hk).1
theorem OwnB.alloc {w : World} {base : Nat} {v : Value} {l : List Int} (h : OwnB w base v l) (o : Obj) : OwnB (w.alloc o) base v l := World.ownsRow.alloc h o
theorem OwnB.below {w w1 : World} {base : Nat} {v : Value} {l : List Int} (h : OwnB w base v l) (hb : Below w.heap.size w w1) : OwnB w1 base v l := by
  obtain ⟨h1, h2⟩ := h
  refine ⟨h1, ?_⟩
  rcases h2 with h2 | ⟨g, cap, cur, hv, hg, hh, r⟩
  · exact .inl h2
  · refine .inr ⟨g, cap, cur, hv, hg, ?_, r⟩
    have hlt : g < w.heap.size := (Array.getElem?_eq_some_iff.1 hh).1
    rw [hb.block _ hlt]; exact hh
theorem OwnB.setCell {w : World} {base : Nat} {v : Value} {l : List Int} (h : OwnB w base v l) {p : Addr} (hp : p.block < base) (u : Value) : OwnB (w.setCell p u) base v l := ownsRow_setCell_below h hp u
theorem OwnB.weak {w : World} {base base' : Nat} {v : Value} {l : List Int} (h : OwnB w base v l) (hb : base' ≤ base) : OwnB w base' v l := by
  obtain ⟨h1, h2⟩ := h
  refine ⟨h1, ?_⟩
  rcases h2 with h2 | ⟨g, cap, cur, hv, hg, r⟩
  · exact .inl h2
  · exact .inr ⟨g, cap, cur, hv, by omega, r⟩
theorem OwnB.cl (base : Nat) (v : Value) (l : List Int) : Cl (fun w => OwnB w base v l) := fun _ _ h hb => h.below hb
theorem OwnB.lat {w : World} {base : Nat} {A : Option Addr} {n c : Nat} {l : List Int} (h : OwnB w base (.slice A n c) l) : BAt w A l := by
  rcases h.2 with ⟨hv, h0⟩ | ⟨g, cap, cur, hv, hb, hh, hc, hm, hs, ht⟩
  · have hl := List.length_eq_zero_iff.1 h0
    subst hl
    exact BAt.nil _ _
  · have hA : A = some ⟨g, 0, none⟩ := by injection hv
    subst hA
    refine fun k x hx => ⟨g, 0, rfl, (Array.getElem?_eq_some_iff.1 hh).1, ?_⟩
    have hcell := World.ownsRow.cells h (g := g) rfl k (.int .u8 x) (by rw [List.getElem?_map, hx]; rfl)
    unfold Addr.add at hcell
    split at hcell
    · rename_i h0; rw [h0]; exact hcell
    · exact hcell
/-- From an owned row. -/
theorem bat_of_own {w : World} {base : Nat} {v : Value} {l : List Int} (h : OwnB w base v l) :
    ∃ A c, v = .slice A l.length c ∧ l.length ≤ c ∧ c ≤ maxLen ∧ BAt w A l := by
  rcases h.2 with ⟨hv, h0⟩ | ⟨g, cap, cur, hv, hb, hh, hc, hm, hs, ht⟩
  · have hl := List.length_eq_zero_iff.1 h0
    subst hl
    exact ⟨none, 0, hv, Nat.le_refl _, Nat.zero_le _, BAt.nil _ _⟩
  · refine ⟨some ⟨g, 0, none⟩, cap, hv, hc, hm, fun k x hx => ⟨g, 0, rfl, (Array.getElem?_eq_some_iff.1 hh).1, ?_⟩⟩
    have hcell := World.ownsRow.cells h (g := g) (by rw [hv]; rfl) k (.int .u8 x) (by rw [List.getElem?_map, hx]; rfl)
    unfold Addr.add at hcell
    split at hcell
    · rename_i h0; rw [h0]; exact hcell
    · exact hcell
theorem byteInfo : (Try.prog.info? 5).map (fun i => (i.zero, i.size, i.bytes)) = some (some (.int .u8 0), 1, 1) := by kernel_rfl
theorem run_append_bytes (w : World) (base : Nat) (ty : TypeId) (v : Value) (n : Nat) (xs : List Value) (hown : w.ownsRow base 5 1 v n xs)
    (A : Option Addr) (c : Nat) (l : List Int) (hA : BAt w A l) (h63 : n + l.length ≤ maxLen) (hbytes : (n + l.length) * 1 ≤ 140737488355328) (hbase : base ≤ w.heap.size) :
    ∃ v' w', (Builtin.append_ #[62, 62] ty #[v, .slice A l.length c]).run Try.prog w = .ok v' w' ∧ w'.ownsRow base 5 1 v' (n + l.length) (xs ++ l.map (Value.int .u8)) ∧ w.grownBy w' v.ownBlock ∧ (v'.ownBlock = v.ownBlock ∨ v'.ownBlock = some w.heap.size) := by
  obtain ⟨i, hi, hz, hs, hb⟩ := info_parts byteInfo
  by_cases h0 : l = []
  · subst h0
    cases A with
    | none =>
      refine ⟨v, w, ?_, by simpa using hown, World.grownBy.refl w _, .inl rfl⟩
      rcases hown.2 with ⟨rfl, rfl⟩ | ⟨g, cap, cur, rfl, _, _, hnc, _⟩
      · simp [Builtin.append_, run_underlying Try.underlying62, sizeOf, typeInfo, hi, Builtin.lenOf, Builtin.firstCells]
      · simp [Builtin.append_, run_underlying Try.underlying62, sizeOf, typeInfo, hi, Builtin.lenOf, Builtin.firstCells, hnc, storeCells]
    | some a =>
      obtain ⟨v', w', h1, h2, h3, _, h5⟩ := run_append_own_at (P := Try.prog) w base 62 ty 5 i _ 1 1 Try.underlying62 hi hz hs hb rfl (by decide) v n xs hown a 0 c [] (by simp) (by simp) (by simp) (by simpa using h63) (by simpa using hbytes) hbase
      exact ⟨v', w', h1, by simpa using h2, h3, h5⟩
  · obtain ⟨x, hx⟩ : ∃ x, l[0]? = some x := by
      cases l with
      | nil => exact absurd rfl h0
      | cons x l => exact ⟨x, rfl⟩
    obtain ⟨g, o, rfl, _, _⟩ := hA 0 x hx
    obtain ⟨v', w', h1, h2, h3, _, h5⟩ := run_append_own_at (P := Try.prog) w base 62 ty 5 i _ 1 1 Try.underlying62 hi hz hs hb rfl (by decide) v n xs hown ⟨g, o, none⟩ l.length c (l.map (Value.int .u8)) (by simp) (fun j u hu => by
      rw [List.getElem?_map] at hu
      obtain ⟨y, hy, rfl⟩ := Option.map_eq_some_iff.1 hu
      obtain ⟨g', o', he, _, hc⟩ := hA j y hy
      simp only [Option.some.injEq, Addr.mk.injEq] at he
      obtain ⟨rfl, rfl, _⟩ := he
      unfold Addr.add
      split
      · rename_i h; rw [h, Nat.add_zero] at hc; exact hc
      · exact hc) (fun u hu => by obtain ⟨y, _, rfl⟩ := List.mem_map.1 hu; rfl) h63 hbytes hbase
    exact ⟨v', w', h1, h2, h3, h5⟩
/-- 'append(v, x...)', v a row of the call's own (or nil), x any limbs. -/
theorem wpList_append_bytes {w : World} {ops : Array Oper} {rest : List Oper} {o : Oper} {a : Act} {Q : Exit → Act → World → Prop} (hgd : o.guard = none) (s x : Operand)
    (ho : o.op = .call { callee := .builtin .append, args := #[s, x], argTypes := #[62, 62] })
    (base : Nat) (v : Value) (xs : List Int) (hs : a.eval s = v) (hown : OwnB w base v xs)
    (A : Option Addr) (c : Nat) (l : List Int) (hx : a.eval x = .slice A l.length c) (hA : BAt w A l) (h63 : xs.length + l.length ≤ 1000000000) (hbase : base ≤ w.heap.size)
    (h : ∀ v' w', OwnB w' base v' (xs ++ l) → w.grownBy w' v.ownBlock → wpList Try.prog ops Q rest (a.put o.dst v') w') : wpList Try.prog ops Q (o :: rest) a w := by
  refine wpList_plain hgd fun K hK => ?_
  obtain ⟨v', w', hrun, h2, h3, _⟩ := run_append_bytes w base o.type v _ _ hown A c l hA (by unfold maxLen; omega) (by omega) hbase
  unfold Oper.wp execOp
  simp only [ho, resolve, invoke, builtin, Sem.run_bind, Sem.run_pure, Result.andThen_ok, List.map_toArray, List.map_cons, List.map_nil, hs, hx, hrun]
  exact hK _ _ (h v' w' (by unfold OwnB; rw [List.length_append, List.map_append]; exact h2) h3)
/-- .. and where the new row lies. -/
theorem wpList_append_bytes2 {w : World} {ops : Array Oper} {rest : List Oper} {o : Oper} {a : Act} {Q : Exit → Act → World → Prop} (hgd : o.guard = none) (s x : Operand)
    (ho : o.op = .call { callee := .builtin .append, args := #[s, x], argTypes := #[62, 62] })
    (base : Nat) (v : Value) (xs : List Int) (hs : a.eval s = v) (hown : OwnB w base v xs)
    (A : Option Addr) (c : Nat) (l : List Int) (hx : a.eval x = .slice A l.length c) (hA : BAt w A l) (h63 : xs.length + l.length ≤ 1000000000) (hbase : base ≤ w.heap.size)
    (h : ∀ v' w', OwnB w' base v' (xs ++ l) → w.grownBy w' v.ownBlock → (v'.ownBlock = v.ownBlock ∨ v'.ownBlock = some w.heap.size) → wpList Try.prog ops Q rest (a.put o.dst v') w') : wpList Try.prog ops Q (o :: rest) a w := by
  refine wpList_plain hgd fun K hK => ?_
  obtain ⟨v', w', hrun, h2, h3, h5⟩ := run_append_bytes w base o.type v _ _ hown A c l hA (by unfold maxLen; omega) (by omega) hbase
  unfold Oper.wp execOp
  simp only [ho, resolve, invoke, builtin, Sem.run_bind, Sem.run_pure, Result.andThen_ok, List.map_toArray, List.map_cons, List.map_nil, hs, hx, hrun]
  exact hK _ _ (h v' w' (by unfold OwnB; rw [List.length_append, List.map_append]; exact h2) h3 h5)
/-- The block g begins with these limbs, and may be written. -/
def Bub (w : World) (g : Nat) (l : List Int) : Prop := g < w.heap.size ∧ (∀ k x, l[k]? = some x → w.cell? ⟨g, k, none⟩ = some (.int .u8 x)) ∧ ∀ o, w.frozen? ⟨g, o, none⟩ = false
theorem Bub.take {w : World} {g : Nat} {l : List Int} (h : Bub w g l) (n : Nat) : Bub w g (l.take n) := by
  refine ⟨h.1, fun k x hx => ?_, h.2.2⟩
  rw [List.getElem?_take] at hx
  split at hx
  · exact h.2.1 k x hx
  · cases hx
theorem Bub.below {w w1 : World} {g : Nat} {l : List Int} (h : Bub w g l) (hb : Below w.heap.size w w1) : Bub w1 g l :=
  ⟨Nat.lt_of_lt_of_le h.1 hb.size, fun k x hx => by rw [hb.cell h.1]; exact h.2.1 k x hx, fun o => by rw [hb.frozen h.1]; exact h.2.2 o⟩
theorem Bub.lat {w : World} {g : Nat} {l : List Int} (h : Bub w g l) : BAt w (some ⟨g, 0, none⟩) l := fun k x hx => ⟨g, 0, rfl, h.1, by rw [Nat.zero_add]; exact h.2.1 k x hx⟩
theorem Bub.set {w : World} {g : Nat} {l : List Int} (h : Bub w g l) {i : Nat} {y : Int} (hy : l[i]? = some y) (x : Int) : Bub (w.setCell ⟨g, i, none⟩ (.int .u8 x)) g (l.set i x) := by
  have hi := (List.getElem?_eq_some_iff.1 hy).1
  refine ⟨by simpa [World.setCell] using h.1, fun k z hz => ?_, fun o => ?_⟩
  · by_cases e : i = k
    · subst e
      rw [List.getElem?_set_self hi] at hz
      rw [← Option.some.inj hz]
      exact World.cell?_setCell_same w _ _ (h.2.1 i y hy)
    · rw [List.getElem?_set_ne e] at hz
      rw [World.cell?_setCell_other w _ _ _ (fun e' => by simp at e' <;> exact e e')]
      exact h.2.1 k z hz
  · rw [World.frozen?_setCell]
    exact h.2.2 o
theorem Bub.far {w : World} {g : Nat} {l : List Int} (h : Bub w g l) {p : Addr} (hp : g ≠ p.block) (x : Value) : Bub (w.setCell p x) g l := by
  refine ⟨by simpa [World.setCell] using h.1, fun k z hz => ?_, fun o => ?_⟩
  · rw [World.cell?_setCell_other w _ _ _ (fun e' => hp (by rw [e']))]
    exact h.2.1 k z hz
  · rw [World.frozen?_setCell]
    exact h.2.2 o
theorem Bub.of_own {w : World} {base : Nat} {v : Value} {l : List Int} (h : OwnB w base v l) (hl : l ≠ []) : ∃ g c, v = .slice (some ⟨g, 0, none⟩) l.length c ∧ l.length ≤ c ∧ base ≤ g ∧ Bub w g l := by
  rcases h.2 with ⟨_, h0⟩ | ⟨g, cap, cur, hv, hb, hh, hc, hm, hs, ht⟩
  · exact absurd (List.length_eq_zero_iff.1 h0) hl
  · refine ⟨g, cap, hv, hc, hb, (Array.getElem?_eq_some_iff.1 hh).1, fun k x hx => ?_, fun o => frozen_of_row w g o _ _ hh⟩
    have hcell := World.ownsRow.cells h (g := g) (by rw [hv]; rfl) k (.int .u8 x) (by rw [List.getElem?_map, hx]; rfl)
    unfold Addr.add at hcell
    split at hcell
    · rename_i h0; rw [h0]; exact hcell
    · simpa using hcell
theorem OwnB.addr {w : World} {base : Nat} {A : Option Addr} {n c : Nat} {l : List Int} (h : OwnB w base (.slice A n c) l) : ∀ g o, A = some ⟨g, o, none⟩ → base ≤ g ∧ g < w.heap.size := by
  intro g o hA
  rcases h.2 with ⟨hv, _⟩ | ⟨g', cap, cur, hv, hb, hh, _⟩
  · rw [hA] at hv; injection hv with hv; cases hv
  · rw [hA] at hv
    have e : (some ⟨g, o, none⟩ : Option Addr) = some ⟨g', 0, none⟩ := by injection hv
    simp only [Option.some.injEq, Addr.mk.injEq] at e
    obtain ⟨rfl, _, _⟩ := e
    exact ⟨hb, (Array.getElem?_eq_some_iff.1 hh).1⟩
/-- An append in a region that draws its order. -/
theorem bat_one {w : World} {b : Nat} {x : Int} (hb : b < w.heap.size) (h0 : w.cell? ⟨b, 0, none⟩ = some (.int .u8 x)) : BAt w (some ⟨b, 0, none⟩) [x] := by
  intro k z hz
  refine ⟨b, 0, rfl, hb, ?_⟩
  rcases k with _ | k
  · simp at hz; subst hz; exact h0
  · simp at hz
/-- Numbers as bytes. -/
def strOf (l : List Int) : ByteArray := ⟨(l.map fun x => UInt8.ofNat x.toNat).toArray⟩
def Byte (l : List Int) : Prop := ∀ x ∈ l, 0 ≤ x ∧ x < 256
theorem run_bytes_string (w : World) (g n c : Nat) (l : List Int) (hl : Byte l) (hn : l.length = n) (h : ∀ k x, l[k]? = some x → w.cell? ⟨g, k, none⟩ = some (.int .u8 x)) :
    (convert 62 9 (.slice (some ⟨g, 0, none⟩) n c)).run Try.prog w = .ok (.string (strOf l)) w := by
  have := run_convert_bytes_back (P := Try.prog) w 62 9 5 ⟨g, 0, none⟩ c (l.map fun x => UInt8.ofNat x.toNat) Try.underlying62 Try.underlying5 Try.underlying9 (fun j hj => by
    rw [List.length_map] at hj
    have hx : l[j]? = some l[j] := List.getElem?_eq_getElem hj
    have h1 := hl l[j] (List.getElem_mem hj)
    have h2 : ((UInt8.ofNat (l[j]).toNat).toNat : Int) = l[j] := by
      rw [UInt8.toNat_ofNat']
      omega
    rw [List.getElem_map, h2]
    unfold Addr.add
    split
    · rename_i h0; subst h0; exact h 0 _ hx
    · simpa using h j _ hx)
  rw [List.length_map, hn] at this
  exact this
end Go.Proofs.Ytadkcipjcmkoiaa
