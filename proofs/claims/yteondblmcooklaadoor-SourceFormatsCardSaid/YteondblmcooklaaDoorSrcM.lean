/- Words, keys and statements in memory; rows of one's own; what stays beside a reader. -/
import Derived.Test.YteondblmcooklaaDoorSrcP
import Derived.Test.YteondblmcooklaaDoorScanL
import Derived.Test.YteondblmcooklaaDoorWarm
import Derived.Test.YteondblmcooklaaDoorOpen
import Derived.Maps.AppendAt
import Derived.Deep.LoopGhost
namespace Go.Proofs.YteondblmcooklaaDoor
open Go Go.RowKit
set_option linter.unusedVariables false
/-- All blocks but one are as they were. -/
structure But (rb : Nat) (w w' : World) : Prop where
  os : w'.os = w.os
  tape : w'.tape = w.tape
  output : w'.output = w.output
  size : w.heap.size ≤ w'.heap.size
  block : ∀ b, b < w.heap.size → b ≠ rb → w'.heap[b]? = w.heap[b]?
theorem But.refl (rb : Nat) (w : World) : But rb w w := ⟨rfl, rfl, rfl, Nat.le_refl _, fun _ _ _ => rfl⟩
theorem But.trans {rb : Nat} {a b c : World} (h : But rb a b) (g : But rb b c) : But rb a c := ⟨g.os.trans h.os, g.tape.trans h.tape, g.output.trans h.output, Nat.le_trans h.size g.size, fun k h1 h2 => (g.block k (Nat.lt_of_lt_of_le h1 h.size) h2).trans (h.block k h1 h2)⟩
theorem But.below {rb B : Nat} {a b c : World} (h : But rb a b) (g : Below B b c) (hB : a.heap.size ≤ B) : But rb a c := ⟨g.os.trans h.os, g.tape.trans h.tape, g.output.trans h.output, Nat.le_trans h.size g.size, fun k h1 h2 => (g.block k (Nat.lt_of_lt_of_le h1 hB)).trans (h.block k h1 h2)⟩
theorem But.alloc {rb : Nat} {a b : World} (h : But rb a b) (o : Obj) : But rb a (b.alloc o) := ⟨h.os, h.tape, h.output, by simp; exact Nat.le_succ_of_le h.size, fun k h1 h2 => (heap_alloc_old b o (Nat.lt_of_lt_of_le h1 h.size)).trans (h.block k h1 h2)⟩
theorem But.set {rb : Nat} {a b : World} (h : But rb a b) {p : Addr} (u : Value) (hp : p.block = rb ∨ a.heap.size ≤ p.block) : But rb a (b.setCell p u) := ⟨h.os, h.tape, h.output, by simpa using h.size, fun k h1 h2 => by
  rw [Below.heap_setCell _ _ _ _ (by rcases hp with e | e <;> omega)]; exact h.block k h1 h2⟩
theorem But.grown {rb : Nat} {a b c : World} {row : Option Nat} (h : But rb a b) (g : b.grownBy c row) (hr : ∀ k, row = some k → a.heap.size ≤ k) : But rb a c :=
  ⟨g.os.trans h.os, g.tape.trans h.tape, g.output.trans h.output, Nat.le_trans h.size g.size, fun k h1 h2 => (g.block k (Nat.lt_of_lt_of_le h1 h.size) (fun e => by have := hr k e.symm; omega)).trans (h.block k h1 h2)⟩
theorem But.cell {rb : Nat} {w w' : World} (h : But rb w w') {p : Addr} (hp : p.block < w.heap.size) (hn : p.block ≠ rb) : w'.cell? p = w.cell? p := World.cell?_of_block (h.block p.block hp hn)
theorem But.frozen {rb : Nat} {w w' : World} (h : But rb w w') {p : Addr} (hp : p.block < w.heap.size) (hn : p.block ≠ rb) : w'.frozen? p = w.frozen? p := World.frozen?_of_block (h.block p.block hp hn)
theorem But.toBelow {rb B : Nat} {w w' : World} (h : But rb w w') (hB : B ≤ rb) (hw : B ≤ w.heap.size) : Below B w w' := ⟨h.os, h.tape, h.output, h.size, fun b hb => h.block b (by omega) (by omega)⟩
theorem But.of_below {rb B : Nat} {w w' : World} (h : Below B w w') (hB : w.heap.size ≤ B) : But rb w w' := (But.refl rb w).below h hB
theorem ownsRow_block {w w' : World} {base size n : Nat} {e : TypeId} {v : Value} {xs : List Value} (h : w.ownsRow base e size v n xs) (hs : ∀ b, v.ownBlock = some b → w'.heap[b]? = w.heap[b]?) : w'.ownsRow base e size v n xs := by
  refine ⟨h.1, ?_⟩
  rcases h.2 with hn | ⟨g, cap, cur, rfl, hb, hgg, rest⟩
  · exact .inl hn
  · exact .inr ⟨g, cap, cur, rfl, hb, by rw [hs g rfl]; exact hgg, rest⟩
theorem own_but {w w' : World} {rb base size n : Nat} {e : TypeId} {v : Value} {xs : List Value} (h : w.ownsRow base e size v n xs) (hb : But rb w w') (hr : rb < base) : w'.ownsRow base e size v n xs :=
  ownsRow_block h fun b hv => hb.block b (h.lt b hv).2 (by have := (h.lt b hv).1; omega)
theorem ownr_weaker {w : World} {base base' size n : Nat} {e : TypeId} {v : Value} {xs : List Value} (h : w.ownsRow base e size v n xs) (hb : base' ≤ base) : w.ownsRow base' e size v n xs := by
  obtain ⟨h1, h2⟩ := h
  rcases h2 with h2 | ⟨g, cap, cur, hv, hg, r⟩
  · exact ⟨h1, .inl h2⟩
  · exact ⟨h1, .inr ⟨g, cap, cur, hv, Nat.le_trans hb hg, r⟩⟩
theorem rowsApart {w : World} {b1 b2 z1 z2 n1 n2 : Nat} {e1 e2 : TypeId} {v1 v2 : Value} {x1 x2 : List Value} (h1 : w.ownsRow b1 e1 z1 v1 n1 x1) (h2 : w.ownsRow b2 e2 z2 v2 n2 x2) (hne : e1 ≠ e2) : v1.ownBlock = none ∨ v1.ownBlock ≠ v2.ownBlock := by
  rcases h1.2 with ⟨rfl, _⟩ | ⟨g, cap, cur, rfl, _, hh, _⟩
  · exact .inl rfl
  · right
    rcases h2.2 with ⟨rfl, _⟩ | ⟨g', cap', cur', rfl, _, hh', _⟩
    · simp [Value.ownBlock]
    · intro e
      simp only [Value.ownBlock, Option.some.injEq] at e
      subst e
      rw [hh] at hh'
      simp only [Option.some.injEq, Obj.cells.injEq] at hh'
      exact hne hh'.2.1
theorem own_kept {w w' : World} {b1 z1 n1 b2 z2 n2 : Nat} {e1 e2 : TypeId} {v1 v2 : Value} {x1 x2 : List Value} (h1 : w.ownsRow b1 e1 z1 v1 n1 x1) (h2 : w.ownsRow b2 e2 z2 v2 n2 x2) (hne : e1 ≠ e2) (hg : w.grownBy w' v2.ownBlock) : w'.ownsRow b1 e1 z1 v1 n1 x1 :=
  ownsRow_block h1 fun b hv => hg.block b (h1.lt b hv).2 (by
    rcases rowsApart h1 h2 hne with h | h
    · rw [hv] at h; cases h
    · rw [← hv]; exact h)
/-- A row's first cell, and its cells. -/
theorem own_cells {w : World} {base size n : Nat} {e : TypeId} {A : Option Addr} {c : Nat} {xs : List Value} (h : w.ownsRow base e size (.slice A n c) n xs) (hn : 0 < n) : ∃ g, A = some ⟨g, 0, none⟩ ∧ g < w.heap.size ∧ base ≤ g ∧ n ≤ c ∧ ∀ j u, xs[j]? = some u → w.cell? ⟨g, j, none⟩ = some u := by
  rcases h.2 with ⟨hv, h0⟩ | ⟨g, cap, cur, hv, hb, hh, hc, hm, hs, ht⟩
  · omega
  · simp only [Value.slice.injEq, true_and] at hv
    obtain ⟨rfl, rfl⟩ := hv
    refine ⟨g, rfl, (Array.getElem?_eq_some_iff.1 hh).1, hb, hc, fun j u hu => ?_⟩
    have hj := (List.getElem?_eq_some_iff.1 hu).1
    rw [h.1] at hj
    have := World.ownsRow.cellAt h j hj
    rw [this]; exact hu
theorem own_sl {w : World} {base size n : Nat} {e : TypeId} {v : Value} {xs : List Value} (h : w.ownsRow base e size v n xs) : ∃ A c, v = .slice A n c := by
  rcases h.2 with ⟨rfl, rfl⟩ | ⟨g, cap, cur, rfl, _⟩
  · exact ⟨_, _, rfl⟩
  · exact ⟨_, _, rfl⟩
/-- 'append(v, x)', v a row of the call's own (or nil), x one element that lies in a block. -/
theorem wpList_append_one {w : World} {ops : Array Oper} {rest : List Oper} {o : Oper} {a : Act} {Q : Exit → Act → World → Prop} (hgd : o.guard = none) (s x : Operand) (t e : TypeId) (z : Value) (size bytes : Nat)
    (ho : o.op = .call { callee := .builtin .append, args := #[s, x], argTypes := #[t, t] })
    (ht : Tryd.prog.underlying t = some (.slice e)) (hinfo : (Tryd.prog.info? e).map (fun i => (i.zero, i.size, i.bytes)) = some (some z, size, bytes)) (hzs : z.cells.size = size) (hsz : 0 < size) (hby : bytes ≤ 1000)
    (base : Nat) (v : Value) (n : Nat) (xs cs : List Value) (hs : a.eval s = v) (hown : w.ownsRow base e size v n xs)
    (g c : Nat) (hx : a.eval x = .slice (some ⟨g, 0, none⟩) 1 c) (hl : cs.length = size) (hcell : ∀ j u, cs[j]? = some u → w.cell? ⟨g, j, none⟩ = some u) (h1 : ∀ u ∈ cs, u.oneCell' = true) (h63 : n ≤ 1000000) (hbase : base ≤ w.heap.size)
    (h : ∀ v' w', w'.ownsRow base e size v' (n + 1) (xs ++ cs) → w.grownBy w' v.ownBlock → (v'.ownBlock = v.ownBlock ∨ v'.ownBlock = some w.heap.size) → wpList Tryd.prog ops Q rest (a.put o.dst v') w') : wpList Tryd.prog ops Q (o :: rest) a w := by
  refine wpList_plain hgd fun K hK => ?_
  obtain ⟨i, hi, hz, hsi, hb⟩ := info_parts hinfo
  have hbytes : (n + 1) * bytes ≤ 140737488355328 := by
    have := Nat.mul_le_mul (show n + 1 ≤ 1000001 by omega) hby
    omega
  obtain ⟨v', w', hrun, h2, h3, _, h5⟩ := run_append_own_at (P := Tryd.prog) w base t o.type e i _ size bytes ht hi hz hsi hb hzs hsz v n xs hown ⟨g, 0, none⟩ 1 c cs (by rw [hl, Nat.one_mul]) (fun j u hu => by
      rw [show (⟨g, 0, none⟩ : Addr).add j = ⟨g, j, none⟩ by unfold Addr.add; split <;> simp_all]
      exact hcell j u hu) h1 (by unfold maxLen; omega) hbytes hbase
  unfold Oper.wp execOp
  simp only [ho, resolve, invoke, builtin, Sem.run_bind, Sem.run_pure, Result.andThen_ok, List.map_toArray, List.map_cons, List.map_nil, hs, hx, hrun]
  exact hK _ _ (h v' w' h2 h3 h5)
/-- The cells of a flat list. -/
theorem flat_get {α : Type} (f : α → List Value) (z : Nat) (hf : ∀ x, (f x).length = z) : ∀ (l : List α) (k j : Nat) (x : α) (u : Value), l[k]? = some x → (f x)[j]? = some u → (l.flatMap f)[k * z + j]? = some u
  | [], k, j, x, u, h, _ => by simp at h
  | y :: l, 0, j, x, u, h, hu => by
    simp only [List.getElem?_cons_zero, Option.some.injEq] at h
    subst h
    have hj := (List.getElem?_eq_some_iff.1 hu).1
    rw [List.flatMap_cons, Nat.zero_mul, Nat.zero_add, List.getElem?_append_left hj]; exact hu
  | y :: l, k + 1, j, x, u, h, hu => by
    simp only [List.getElem?_cons_succ] at h
    rw [List.flatMap_cons, List.getElem?_append_right (by rw [hf, Nat.succ_mul]; omega), hf, show (k + 1) * z + j - z = k * z + j by rw [Nat.succ_mul]; omega]
    exact flat_get f z hf l k j x u h hu
theorem flat_len {α : Type} (f : α → List Value) (z : Nat) (hf : ∀ x, (f x).length = z) (l : List α) : (l.flatMap f).length = l.length * z := by
  induction l with
  | nil => simp
  | cons x l ih => rw [List.flatMap_cons, List.length_append, ih, hf, List.length_cons, Nat.succ_mul]; omega
/-- Integers, words, keys, statements at an address. -/
def IAt (w : World) (A : Option Addr) (l : List Int) : Prop := ∀ k x, l[k]? = some x → ∃ g o, A = some ⟨g, o, none⟩ ∧ g < w.heap.size ∧ w.cell? ⟨g, o + k, none⟩ = some (.int .i64 x)
theorem IAt.below {w w1 : World} {A : Option Addr} {l : List Int} {B : Nat} (h : IAt w A l) (hb : Below B w w1) (hB : w.heap.size ≤ B) : IAt w1 A l := fun k x hx => by
  obtain ⟨g, o, hA, hg, h0⟩ := h k x hx
  exact ⟨g, o, hA, Nat.lt_of_lt_of_le hg hb.size, (hb.cell (p := ⟨g, o + k, none⟩) (Nat.lt_of_lt_of_le hg hB)).trans h0⟩
def OwnI (w : World) (base : Nat) (A : Option Addr) (c : Nat) (l : List Int) : Prop := w.ownsRow base 3 1 (.slice A l.length c) l.length (l.map (Value.int .i64))
theorem OwnI.iat {w : World} {base : Nat} {A : Option Addr} {c : Nat} {l : List Int} (h : OwnI w base A c l) : IAt w A l := fun k x hx => by
  have hk := (List.getElem?_eq_some_iff.1 hx).1
  obtain ⟨g, hA, hg, _, _, hc⟩ := own_cells h (by omega)
  exact ⟨g, 0, hA, hg, by rw [Nat.zero_add]; exact hc k _ (by rw [List.getElem?_map, hx]; rfl)⟩
def WvAt (w : World) (N : Nat) (A : Option Addr) (l : List WV) : Prop := ∀ k x, l[k]? = some x → ∃ g o, A = some ⟨g, o, none⟩ ∧ g < N ∧ ∀ j u, (cellsOfW x)[j]? = some u → w.cell? ⟨g, o + (k * 4 + j), none⟩ = some u
theorem WvAt.but {w w' : World} {N rb : Nat} {A : Option Addr} {l : List WV} (h : WvAt w N A l) (hb : But rb w w') (hN : N ≤ w.heap.size) (hr : N ≤ rb) : WvAt w' N A l := fun k x hx => by
  obtain ⟨g, o, hA, hg, hc⟩ := h k x hx
  exact ⟨g, o, hA, hg, fun j u hu => (hb.cell (p := ⟨g, _, none⟩) (by show g < _; omega) (by show g ≠ _; omega)).trans (hc j u hu)⟩
theorem WvAt.below {w w' : World} {N B : Nat} {A : Option Addr} {l : List WV} (h : WvAt w N A l) (hb : Below B w w') (hN : N ≤ B) : WvAt w' N A l := fun k x hx => by
  obtain ⟨g, o, hA, hg, hc⟩ := h k x hx
  exact ⟨g, o, hA, hg, fun j u hu => (hb.cell (p := ⟨g, _, none⟩) (by show g < _; omega)).trans (hc j u hu)⟩
theorem WvAt.head {w : World} {N g o : Nat} {x : WV} {l : List WV} (h : WvAt w N (some ⟨g, o, none⟩) (x :: l)) : g < N ∧ w.cell? ⟨g, o, none⟩ = some (.int .i64 x.kind) ∧ w.cell? ⟨g, o + 1, none⟩ = some (.string x.text) ∧ w.cell? ⟨g, o + 2, none⟩ = some (.int .i64 x.num) ∧ w.cell? ⟨g, o + 3, none⟩ = some (.int .i64 x.at_) := by
  obtain ⟨g', o', hA, hg, hc⟩ := h 0 x rfl
  simp only [Option.some.injEq, Addr.mk.injEq, and_true] at hA
  obtain ⟨rfl, rfl⟩ := hA
  have c0 := hc 0 _ rfl
  have c1 := hc 1 _ rfl
  have c2 := hc 2 _ rfl
  have c3 := hc 3 _ rfl
  simp only [Nat.zero_mul, Nat.zero_add, Nat.add_zero] at c0 c1 c2 c3
  exact ⟨hg, c0, c1, c2, c3⟩
theorem WvAt.form {w : World} {N : Nat} {A : Option Addr} {x : WV} {l : List WV} (h : WvAt w N A (x :: l)) : ∃ g o, A = some ⟨g, o, none⟩ := by
  obtain ⟨g, o, hA, _⟩ := h 0 x rfl
  exact ⟨g, o, hA⟩
theorem WvAt.tail {w : World} {N g o : Nat} {x : WV} {l : List WV} (h : WvAt w N (some ⟨g, o, none⟩) (x :: l)) : WvAt w N (some ⟨g, o + 4, none⟩) l := fun k y hy => by
  obtain ⟨g', o', hA, hg, hc⟩ := h (k + 1) y (by simpa using hy)
  simp only [Option.some.injEq, Addr.mk.injEq, and_true] at hA
  obtain ⟨rfl, rfl⟩ := hA
  refine ⟨g, o + 4, rfl, hg, fun j u hu => ?_⟩
  have := hc j u hu
  rwa [show o + ((k + 1) * 4 + j) = o + 4 + (k * 4 + j) by omega] at this
theorem WvAt.get {w : World} {N : Nat} {A : Option Addr} {l : List WV} (h : WvAt w N A l) {k : Nat} {x : WV} (hx : l[k]? = some x) : ∃ g o, A = some ⟨g, o, none⟩ ∧ g < N ∧ w.cell? ⟨g, o + k * 4, none⟩ = some (.int .i64 x.kind) ∧ w.cell? ⟨g, o + k * 4 + 1, none⟩ = some (.string x.text) ∧ w.cell? ⟨g, o + k * 4 + 2, none⟩ = some (.int .i64 x.num) ∧ w.cell? ⟨g, o + k * 4 + 3, none⟩ = some (.int .i64 x.at_) := by
  obtain ⟨g, o, hA, hg, hc⟩ := h k x hx
  have c0 := hc 0 _ rfl
  have c1 := hc 1 _ rfl
  have c2 := hc 2 _ rfl
  have c3 := hc 3 _ rfl
  simp only [← Nat.add_assoc, Nat.add_zero] at c0 c1 c2 c3
  exact ⟨g, o, hA, hg, c0, c1, c2, c3⟩
theorem own_wvat {w : World} {base : Nat} {e : TypeId} {A : Option Addr} {c : Nat} {l : List WV} (h : w.ownsRow base e 4 (.slice A l.length c) l.length (flatW l)) : WvAt w w.heap.size A l := fun k x hx => by
  have hk := (List.getElem?_eq_some_iff.1 hx).1
  obtain ⟨g, hA, hg, _, _, hc⟩ := own_cells h (by omega)
  exact ⟨g, 0, hA, hg, fun j u hu => by rw [Nat.zero_add]; exact hc _ _ (flat_get cellsOfW 4 (fun _ => rfl) l k j x u hx hu)⟩
def cellsOfK (x : KV) (B : Option Addr) (d : Nat) : List Value := [.string x.key, .slice B x.vals.length d, .int .i64 x.at_]
def cellsOfX (x : IV) (B : Option Addr) (d : Nat) : List Value := [.string x.word, .string x.name, .slice B x.keys.length d, .int .i64 x.at_]
def KsAt (w : World) (A : Option Addr) (l : List KV) : Prop := ∀ k x, l[k]? = some x → ∃ g o B d, A = some ⟨g, o, none⟩ ∧ g < w.heap.size ∧ (w.cell? ⟨g, o + k * 3, none⟩ = some (.string x.key) ∧ w.cell? ⟨g, o + k * 3 + 1, none⟩ = some (.slice B x.vals.length d) ∧ w.cell? ⟨g, o + k * 3 + 2, none⟩ = some (.int .i64 x.at_)) ∧ IAt w B x.vals
def XsAt (w : World) (A : Option Addr) (l : List IV) : Prop := ∀ k x, l[k]? = some x → ∃ g o B d, A = some ⟨g, o, none⟩ ∧ g < w.heap.size ∧ (w.cell? ⟨g, o + k * 4, none⟩ = some (.string x.word) ∧ w.cell? ⟨g, o + k * 4 + 1, none⟩ = some (.string x.name) ∧ w.cell? ⟨g, o + k * 4 + 2, none⟩ = some (.slice B x.keys.length d) ∧ w.cell? ⟨g, o + k * 4 + 3, none⟩ = some (.int .i64 x.at_)) ∧ KsAt w B x.keys
theorem KsAt.below {w w1 : World} {A : Option Addr} {l : List KV} {B : Nat} (h : KsAt w A l) (hb : Below B w w1) (hB : w.heap.size ≤ B) : KsAt w1 A l := fun k x hx => by
  obtain ⟨g, o, B', d, hA, hg, ⟨h0, h1, h2⟩, hi⟩ := h k x hx
  have hc := fun j => hb.cell (p := ⟨g, j, none⟩) (Nat.lt_of_lt_of_le hg hB)
  exact ⟨g, o, B', d, hA, Nat.lt_of_lt_of_le hg hb.size, ⟨(hc _).trans h0, (hc _).trans h1, (hc _).trans h2⟩, hi.below hb hB⟩
theorem XsAt.below {w w1 : World} {A : Option Addr} {l : List IV} {B : Nat} (h : XsAt w A l) (hb : Below B w w1) (hB : w.heap.size ≤ B) : XsAt w1 A l := fun k x hx => by
  obtain ⟨g, o, B', d, hA, hg, ⟨h0, h1, h2, h3⟩, hi⟩ := h k x hx
  have hc := fun j => hb.cell (p := ⟨g, j, none⟩) (Nat.lt_of_lt_of_le hg hB)
  exact ⟨g, o, B', d, hA, Nat.lt_of_lt_of_le hg hb.size, ⟨(hc _).trans h0, (hc _).trans h1, (hc _).trans h2, (hc _).trans h3⟩, hi.below hb hB⟩
theorem IAt.nil (w : World) (A : Option Addr) : IAt w A [] := fun k x h => by simp at h
theorem KsAt.nil (w : World) (A : Option Addr) : KsAt w A [] := fun k x h => by simp at h
theorem XsAt.nil (w : World) (A : Option Addr) : XsAt w A [] := fun k x h => by simp at h
/-- Rows of keys, of statements: of one's own. -/
def KsOwn (w : World) (base : Nat) (tK : TypeId) (A : Option Addr) (c : Nat) (l : List KV) : Prop :=
  ∃ ps : List (KV × Option Addr × Nat), ps.map (·.1) = l ∧ w.ownsRow base tK 3 (.slice A l.length c) l.length (ps.flatMap fun p => cellsOfK p.1 p.2.1 p.2.2) ∧ ∀ p ∈ ps, OwnI w base p.2.1 p.2.2 p.1.vals
def XsOwn (w : World) (base : Nat) (tX tK : TypeId) (A : Option Addr) (c : Nat) (l : List IV) : Prop :=
  ∃ ps : List (IV × Option Addr × Nat), ps.map (·.1) = l ∧ w.ownsRow base tX 4 (.slice A l.length c) l.length (ps.flatMap fun p => cellsOfX p.1 p.2.1 p.2.2) ∧ ∀ p ∈ ps, KsOwn w base tK p.2.1 p.2.2 p.1.keys
theorem KsOwn.nil (w : World) (base : Nat) (tK : TypeId) : KsOwn w base tK none 0 [] := ⟨[], rfl, World.ownsRow_nil _ _ _ _, by simp⟩
theorem XsOwn.nil (w : World) (base : Nat) (tX tK : TypeId) : XsOwn w base tX tK none 0 [] := ⟨[], rfl, World.ownsRow_nil _ _ _ _, by simp⟩
theorem OwnI.nil (w : World) (base : Nat) : OwnI w base none 0 [] := World.ownsRow_nil _ _ _ _
theorem OwnI.but {w w' : World} {rb base : Nat} {A : Option Addr} {c : Nat} {l : List Int} (h : OwnI w base A c l) (hb : But rb w w') (hr : rb < base) : OwnI w' base A c l := own_but h hb hr
theorem KsOwn.but {w w' : World} {rb base : Nat} {tK : TypeId} {A : Option Addr} {c : Nat} {l : List KV} (h : KsOwn w base tK A c l) (hb : But rb w w') (hr : rb < base) : KsOwn w' base tK A c l := by
  obtain ⟨ps, h1, h2, h3⟩ := h
  exact ⟨ps, h1, own_but h2 hb hr, fun p hp => (h3 p hp).but hb hr⟩
theorem XsOwn.but {w w' : World} {rb base : Nat} {tX tK : TypeId} {A : Option Addr} {c : Nat} {l : List IV} (h : XsOwn w base tX tK A c l) (hb : But rb w w') (hr : rb < base) : XsOwn w' base tX tK A c l := by
  obtain ⟨ps, h1, h2, h3⟩ := h
  exact ⟨ps, h1, own_but h2 hb hr, fun p hp => (h3 p hp).but hb hr⟩
theorem OwnI.weaker {w : World} {base base' : Nat} {A : Option Addr} {c : Nat} {l : List Int} (h : OwnI w base A c l) (hb : base' ≤ base) : OwnI w base' A c l := ownr_weaker h hb
theorem KsOwn.weaker {w : World} {base base' : Nat} {tK : TypeId} {A : Option Addr} {c : Nat} {l : List KV} (h : KsOwn w base tK A c l) (hb : base' ≤ base) : KsOwn w base' tK A c l := by
  obtain ⟨ps, h1, h2, h3⟩ := h
  exact ⟨ps, h1, ownr_weaker h2 hb, fun p hp => (h3 p hp).weaker hb⟩
theorem KsOwn.below {w w' : World} {base B : Nat} {tK : TypeId} {A : Option Addr} {c : Nat} {l : List KV} (h : KsOwn w base tK A c l) (hb : Below B w w') (hB : w.heap.size ≤ B) : KsOwn w' base tK A c l := by
  obtain ⟨ps, h1, h2, h3⟩ := h
  exact ⟨ps, h1, own_below h2 hb hB, fun p hp => own_below (h3 p hp) hb hB⟩
theorem XsOwn.below {w w' : World} {base B : Nat} {tX tK : TypeId} {A : Option Addr} {c : Nat} {l : List IV} (h : XsOwn w base tX tK A c l) (hb : Below B w w') (hB : w.heap.size ≤ B) : XsOwn w' base tX tK A c l := by
  obtain ⟨ps, h1, h2, h3⟩ := h
  exact ⟨ps, h1, own_below h2 hb hB, fun p hp => (h3 p hp).below hb hB⟩
theorem KsOwn.kept {w w' : World} {base b2 z2 n2 : Nat} {tK e2 : TypeId} {A : Option Addr} {c : Nat} {l : List KV} {v2 : Value} {x2 : List Value} (h : KsOwn w base tK A c l) (h2 : w.ownsRow b2 e2 z2 v2 n2 x2) (n1 : tK ≠ e2) (n2' : 3 ≠ e2) (hg : w.grownBy w' v2.ownBlock) : KsOwn w' base tK A c l := by
  obtain ⟨ps, h1, h2', h3⟩ := h
  exact ⟨ps, h1, own_kept h2' h2 n1 hg, fun p hp => own_kept (h3 p hp) h2 n2' hg⟩
theorem KsOwn.at {w : World} {base : Nat} {tK : TypeId} {A : Option Addr} {c : Nat} {l : List KV} (h : KsOwn w base tK A c l) : KsAt w A l := fun k x hx => by
  obtain ⟨ps, rfl, h2, h3⟩ := h
  have hk := (List.getElem?_eq_some_iff.1 hx).1
  rw [List.getElem?_map] at hx
  obtain ⟨p, hp, rfl⟩ := Option.map_eq_some_iff.1 hx
  obtain ⟨g, hA, hg, _, _, hc⟩ := own_cells h2 (by omega)
  have hc' := fun j u hu => hc _ _ (flat_get (fun p : KV × Option Addr × Nat => cellsOfK p.1 p.2.1 p.2.2) 3 (fun _ => rfl) ps k j p u hp hu)
  have c0 := hc' 0 _ rfl
  have c1 := hc' 1 _ rfl
  have c2 := hc' 2 _ rfl
  refine ⟨g, 0, p.2.1, p.2.2, hA, hg, ⟨?_, ?_, ?_⟩, (h3 p (List.mem_of_getElem? hp)).iat⟩
  · rw [Nat.zero_add]; exact c0
  · rw [Nat.zero_add]; exact c1
  · rw [Nat.zero_add]; exact c2
theorem XsOwn.at {w : World} {base : Nat} {tX tK : TypeId} {A : Option Addr} {c : Nat} {l : List IV} (h : XsOwn w base tX tK A c l) : XsAt w A l := fun k x hx => by
  obtain ⟨ps, rfl, h2, h3⟩ := h
  have hk := (List.getElem?_eq_some_iff.1 hx).1
  rw [List.getElem?_map] at hx
  obtain ⟨p, hp, rfl⟩ := Option.map_eq_some_iff.1 hx
  obtain ⟨g, hA, hg, _, _, hc⟩ := own_cells h2 (by omega)
  have hc' := fun j u hu => hc _ _ (flat_get (fun p : IV × Option Addr × Nat => cellsOfX p.1 p.2.1 p.2.2) 4 (fun _ => rfl) ps k j p u hp hu)
  have c0 := hc' 0 _ rfl
  have c1 := hc' 1 _ rfl
  have c2 := hc' 2 _ rfl
  have c3 := hc' 3 _ rfl
  refine ⟨g, 0, p.2.1, p.2.2, hA, hg, ⟨?_, ?_, ?_, ?_⟩, (h3 p (List.mem_of_getElem? hp)).at⟩
  · rw [Nat.zero_add]; exact c0
  · rw [Nat.zero_add]; exact c1
  · rw [Nat.zero_add]; exact c2
  · rw [Nat.zero_add]; exact c3
/-- One more. -/
theorem KsOwn.snoc {w w' : World} {base : Nat} {tK : TypeId} {A : Option Addr} {c : Nat} {ps : List (KV × Option Addr × Nat)} {x : KV} {B : Option Addr} {d : Nat} {v' : Value} (hne : tK ≠ 3)
    (h2 : w.ownsRow base tK 3 (.slice A ps.length c) ps.length (ps.flatMap fun p => cellsOfK p.1 p.2.1 p.2.2)) (h3 : ∀ p ∈ ps, OwnI w base p.2.1 p.2.2 p.1.vals) (hx : OwnI w base B d x.vals)
    (hw : w'.ownsRow base tK 3 v' (ps.length + 1) ((ps.flatMap fun p => cellsOfK p.1 p.2.1 p.2.2) ++ cellsOfK x B d)) (hg : w.grownBy w' (Value.ownBlock (.slice A ps.length c))) :
    ∃ A' c', v' = .slice A' (ps.map (·.1) ++ [x]).length c' ∧ KsOwn w' base tK A' c' (ps.map (·.1) ++ [x]) := by
  obtain ⟨A', c', rfl⟩ := own_sl hw
  refine ⟨A', c', by simp, ps ++ [(x, B, d)], by simp, by simpa using hw, fun p hp => ?_⟩
  rcases List.mem_append.1 hp with h | h
  · exact own_kept (h3 p h) h2 (Ne.symm hne) hg
  · simp only [List.mem_singleton] at h
    subst h
    exact own_kept hx h2 (Ne.symm hne) hg
theorem XsOwn.snoc {w w' : World} {base : Nat} {tX tK : TypeId} {A : Option Addr} {c : Nat} {ps : List (IV × Option Addr × Nat)} {x : IV} {B : Option Addr} {d : Nat} {v' : Value} (n1 : tK ≠ tX) (n2 : 3 ≠ tX)
    (h2 : w.ownsRow base tX 4 (.slice A ps.length c) ps.length (ps.flatMap fun p => cellsOfX p.1 p.2.1 p.2.2)) (h3 : ∀ p ∈ ps, KsOwn w base tK p.2.1 p.2.2 p.1.keys) (hx : KsOwn w base tK B d x.keys)
    (hw : w'.ownsRow base tX 4 v' (ps.length + 1) ((ps.flatMap fun p => cellsOfX p.1 p.2.1 p.2.2) ++ cellsOfX x B d)) (hg : w.grownBy w' (Value.ownBlock (.slice A ps.length c))) :
    ∃ A' c', v' = .slice A' (ps.map (·.1) ++ [x]).length c' ∧ XsOwn w' base tX tK A' c' (ps.map (·.1) ++ [x]) := by
  obtain ⟨A', c', rfl⟩ := own_sl hw
  refine ⟨A', c', by simp, ps ++ [(x, B, d)], by simp, by simpa using hw, fun p hp => ?_⟩
  rcases List.mem_append.1 hp with h | h
  · exact (h3 p h).kept h2 n1 n2 hg
  · simp only [List.mem_singleton] at h
    subst h
    exact hx.kept h2 n1 n2 hg
theorem intInfo : (Tryd.prog.info? 3).map (fun i => (i.zero, i.size, i.bytes)) = some (some (.int .i64 0), 1, 8) := by kernel_rfl
theorem keyInfo : (Tryd.prog.info? 71).map (fun i => (i.zero, i.size, i.bytes)) = some (some (.agg #[.string ⟨#[]⟩, .slice none 0 0, .int .i64 0]), 3, 48) := by kernel_rfl
theorem itemInfo : (Tryd.prog.info? 35).map (fun i => (i.zero, i.size, i.bytes)) = some (some (.agg #[.string ⟨#[]⟩, .string ⟨#[]⟩, .slice none 0 0, .int .i64 0]), 4, 64) := by kernel_rfl
theorem rkeyInfo : (Tryd.prog.info? 72).map (fun i => (i.zero, i.size, i.bytes)) = some (some (.agg #[.string ⟨#[]⟩, .slice none 0 0, .int .i64 0]), 3, 48) := by kernel_rfl
theorem ritemInfo : (Tryd.prog.info? 43).map (fun i => (i.zero, i.size, i.bytes)) = some (some (.agg #[.string ⟨#[]⟩, .string ⟨#[]⟩, .slice none 0 0, .int .i64 0]), 4, 64) := by kernel_rfl
end Go.Proofs.YteondblmcooklaaDoor
