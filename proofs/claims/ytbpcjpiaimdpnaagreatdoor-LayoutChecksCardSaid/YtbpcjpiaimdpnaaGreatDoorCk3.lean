/- Merged texts: SrcM LcS SrcA SrcB SrcC SrcD LcD LcG SrcQ LcT. -/
import Derived.Test.YtbpcjpiaimdpnaaGreatDoorCk2
import Derived.Maps.AppendAt
import Derived.Deep.LoopGhost
import Derived.Test.YtbpcjpiaimdpnaaGreatDoorShq
import Derived.Deep.Cut
import Derived.Laws.MakeOwn
set_option linter.unusedSimpArgs false
set_option linter.unusedVariables false
namespace Go.Proofs.YtbpcjpiaimdpnaaGreatDoor
open Go Go.RowKit
set_option linter.unusedVariables false
structure But (rb : Nat) (w w' : World) : Prop where
  os : w'.os = w.os
  tape : w'.tape = w.tape
  output : w'.output = w.output
  size : w.heap.size ≤ w'.heap.size
  block : ∀ b, b < w.heap.size → b ≠ rb → w'.heap[b]? = w.heap[b]?
theorem But.refl (rb : Nat) (w : World) : But rb w w := ⟨rfl, rfl, rfl, Nat.le_refl _, fun _ _ _ => rfl⟩
theorem But.trans {rb : Nat} {a b c : World} (h : But rb a b) (g : But rb b c) : But rb a c := ⟨g.os.trans h.os, g.tape.trans h.tape, g.output.trans h.output, Nat.le_trans h.size g.size, fun k h1 h2 => (g.block k (Nat.lt_of_lt_of_le h1 h.size) h2).trans (h.block k h1 h2)⟩
theorem But.below {rb B : Nat} {a b c : World} (h : But rb a b) (g : Below B b c) (hB : a.heap.size ≤ B) : But rb a c := ⟨g.os.trans h.os, g.tape.trans h.tape, g.output.trans h.output, Nat.le_trans h.size g.size, fun k h1 h2 => (g.block k (Nat.lt_of_lt_of_le h1 hB)).trans (h.block k h1 h2)⟩
theorem But.alloc {rb : Nat} {a b : World} (h : But rb a b) (o : Obj) : But rb a (b.alloc o) := ⟨h.os, h.tape, h.output, by simp; exact Nat.le_succ_of_le h.size, fun k h1 h2 => (heap_alloc_old b o (Nat.lt_of_lt_of_le h1 h.size)).trans (h.block k h1 h2)⟩
theorem But.set {rb : Nat} {a b : World} (h : But rb a b) {p : Addr} (u : Value) (hp : p.block = rb ∨ a.heap.size ≤ p.block) : But rb a (b.setCell p u) := ⟨h.os, h.tape, h.output, by simpa using h.size, fun k h1 h2 => by
 rw [Below.heap_setCell _ _ _ _ (by rcases hp with e | e <;> omega)]; exact h.block k h1 h2⟩
theorem But.grown {rb : Nat} {a b c : World} {row : Option Nat} (h : But rb a b) (g : b.grownBy c row) (hr : ∀ k, row = some k → a.heap.size ≤ k) : But rb a c :=
 ⟨g.os.trans h.os, g.tape.trans h.tape, g.output.trans h.output, Nat.le_trans h.size g.size, fun k h1 h2 => (g.block k (Nat.lt_of_lt_of_le h1 h.size) (fun e => by have := hr k e.symm; omega)).trans (h.block k h1 h2)⟩
theorem But.cell {rb : Nat} {w w' : World} (h : But rb w w') {p : Addr} (hp : p.block < w.heap.size) (hn : p.block ≠ rb) : w'.cell? p = w.cell? p := World.cell?_of_block (h.block p.block hp hn)
theorem But.frozen {rb : Nat} {w w' : World} (h : But rb w w') {p : Addr} (hp : p.block < w.heap.size) (hn : p.block ≠ rb) : w'.frozen? p = w.frozen? p := World.frozen?_of_block (h.block p.block hp hn)
theorem But.toBelow {rb B : Nat} {w w' : World} (h : But rb w w') (hB : B ≤ rb) (hw : B ≤ w.heap.size) : Below B w w' := ⟨h.os, h.tape, h.output, h.size, fun b hb => h.block b (by omega) (by omega)⟩
theorem But.of_below {rb B : Nat} {w w' : World} (h : Below B w w') (hB : w.heap.size ≤ B) : But rb w w' := (But.refl rb w).below h hB
theorem ownsRow_block {w w' : World} {base size n : Nat} {e : TypeId} {v : Value} {xs : List Value} (h : w.ownsRow base e size v n xs) (hs : ∀ b, v.ownBlock = some b → w'.heap[b]? = w.heap[b]?) : w'.ownsRow base e size v n xs := by
 refine ⟨h.1, ?_⟩
 rcases h.2 with hn | ⟨g, cap, cur, rfl, hb, hgg, rest⟩
 · exact .inl hn
 · exact .inr ⟨g, cap, cur, rfl, hb, by rw [hs g rfl]; exact hgg, rest⟩
theorem own_but {w w' : World} {rb base size n : Nat} {e : TypeId} {v : Value} {xs : List Value} (h : w.ownsRow base e size v n xs) (hb : But rb w w') (hr : rb < base) : w'.ownsRow base e size v n xs :=
 ownsRow_block h fun b hv => hb.block b (h.lt b hv).2 (by have := (h.lt b hv).1; omega)
theorem ownr_weaker {w : World} {base base' size n : Nat} {e : TypeId} {v : Value} {xs : List Value} (h : w.ownsRow base e size v n xs) (hb : base' ≤ base) : w.ownsRow base' e size v n xs := by
 obtain ⟨h1, h2⟩ := h
 rcases h2 with h2 | ⟨g, cap, cur, hv, hg, r⟩
 · exact ⟨h1, .inl h2⟩
 · exact ⟨h1, .inr ⟨g, cap, cur, hv, Nat.le_trans hb hg, r⟩⟩
theorem rowsApart {w : World} {b1 b2 z1 z2 n1 n2 : Nat} {e1 e2 : TypeId} {v1 v2 : Value} {x1 x2 : List Value} (h1 : w.ownsRow b1 e1 z1 v1 n1 x1) (h2 : w.ownsRow b2 e2 z2 v2 n2 x2) (hne : e1 ≠ e2) : v1.ownBlock = none ∨ v1.ownBlock ≠ v2.ownBlock := by
 rcases h1.2 with ⟨rfl, _⟩ | ⟨g, cap, cur, rfl, _, hh, _⟩
 · exact .inl rfl
 · right
   rcases h2.2 with ⟨rfl, _⟩ | ⟨g', cap', cur', rfl, _, hh', _⟩
   · simp [Value.ownBlock]
   · intro e
     simp only [Value.ownBlock, Option.some.injEq] at e
     subst e
     rw [hh] at hh'
     simp only [Option.some.injEq, Obj.cells.injEq] at hh'
     exact hne hh'.2.1
theorem own_kept {w w' : World} {b1 z1 n1 b2 z2 n2 : Nat} {e1 e2 : TypeId} {v1 v2 : Value} {x1 x2 : List Value} (h1 : w.ownsRow b1 e1 z1 v1 n1 x1) (h2 : w.ownsRow b2 e2 z2 v2 n2 x2) (hne : e1 ≠ e2) (hg : w.grownBy w' v2.ownBlock) : w'.ownsRow b1 e1 z1 v1 n1 x1 :=
 ownsRow_block h1 fun b hv => hg.block b (h1.lt b hv).2 (by
  rcases rowsApart h1 h2 hne with h | h
  · rw [hv] at h; cases h
  · rw [← hv]; exact h)
theorem own_cells {w : World} {base size n : Nat} {e : TypeId} {A : Option Addr} {c : Nat} {xs : List Value} (h : w.ownsRow base e size (.slice A n c) n xs) (hn : 0 < n) : ∃ g, A = some ⟨g, 0, none⟩ ∧ g < w.heap.size ∧ base ≤ g ∧ n ≤ c ∧ ∀ j u, xs[j]? = some u → w.cell? ⟨g, j, none⟩ = some u := by
 rcases h.2 with ⟨hv, h0⟩ | ⟨g, cap, cur, hv, hb, hh, hc, hm, hs, ht⟩
 · omega
 · simp only [Value.slice.injEq, true_and] at hv
   obtain ⟨rfl, rfl⟩ := hv
   refine ⟨g, rfl, (Array.getElem?_eq_some_iff.1 hh).1, hb, hc, fun j u hu => ?_⟩
   have hj := (List.getElem?_eq_some_iff.1 hu).1
   rw [h.1] at hj
   have := World.ownsRow.cellAt h j hj
   rw [this]; exact hu
theorem own_sl {w : World} {base size n : Nat} {e : TypeId} {v : Value} {xs : List Value} (h : w.ownsRow base e size v n xs) : ∃ A c, v = .slice A n c := by
 rcases h.2 with ⟨rfl, rfl⟩ | ⟨g, cap, cur, rfl, _⟩
 · exact ⟨_, _, rfl⟩
 · exact ⟨_, _, rfl⟩
theorem wpList_append_one {w : World} {ops : Array Oper} {rest : List Oper} {o : Oper} {a : Act} {Q : Exit → Act → World → Prop} (hgd : o.guard = none) (s x : Operand) (t e : TypeId) (z : Value) (size bytes : Nat)
  (ho : o.op = .call { callee := .builtin .append, args := #[s, x], argTypes := #[t, t] })
  (ht : Tryz.prog.underlying t = some (.slice e)) (hinfo : (Tryz.prog.info? e).map (fun i => (i.zero, i.size, i.bytes)) = some (some z, size, bytes)) (hzs : z.cells.size = size) (hsz : 0 < size) (hby : bytes ≤ 1000)
  (base : Nat) (v : Value) (n : Nat) (xs cs : List Value) (hs : a.eval s = v) (hown : w.ownsRow base e size v n xs)
  (g c : Nat) (hx : a.eval x = .slice (some ⟨g, 0, none⟩) 1 c) (hl : cs.length = size) (hcell : ∀ j u, cs[j]? = some u → w.cell? ⟨g, j, none⟩ = some u) (h1 : ∀ u ∈ cs, u.oneCell' = true) (h63 : n ≤ 1000000) (hbase : base ≤ w.heap.size)
  (h : ∀ v' w', w'.ownsRow base e size v' (n + 1) (xs ++ cs) → w.grownBy w' v.ownBlock → (v'.ownBlock = v.ownBlock ∨ v'.ownBlock = some w.heap.size) → wpList Tryz.prog ops Q rest (a.put o.dst v') w') : wpList Tryz.prog ops Q (o :: rest) a w := by
 refine wpList_plain hgd fun K hK => ?_
 obtain ⟨i, hi, hz, hsi, hb⟩ := info_parts hinfo
 have hbytes : (n + 1) * bytes ≤ 140737488355328 := by
  have := Nat.mul_le_mul (show n + 1 ≤ 1000001 by omega) hby
  omega
 obtain ⟨v', w', hrun, h2, h3, _, h5⟩ := run_append_own_at (P := Tryz.prog) w base t o.type e i _ size bytes ht hi hz hsi hb hzs hsz v n xs hown ⟨g, 0, none⟩ 1 c cs (by rw [hl, Nat.one_mul]) (fun j u hu => by
   rw [show (⟨g, 0, none⟩ : Addr).add j = ⟨g, j, none⟩ by unfold Addr.add; split <;> simp_all]
   exact hcell j u hu) h1 (by unfold maxLen; omega) hbytes hbase
 unfold Oper.wp execOp
 simp only [ho, resolve, invoke, builtin, Sem.run_bind, Sem.run_pure, Result.andThen_ok, List.map_toArray, List.map_cons, List.map_nil, hs, hx, hrun]
 exact hK _ _ (h v' w' h2 h3 h5)
theorem flat_get {α : Type} (f : α → List Value) (z : Nat) (hf : ∀ x, (f x).length = z) : ∀ (l : List α) (k j : Nat) (x : α) (u : Value), l[k]? = some x → (f x)[j]? = some u → (l.flatMap f)[k * z + j]? = some u
 | [], k, j, x, u, h, _ => by simp at h
 | y :: l, 0, j, x, u, h, hu => by
  simp only [List.getElem?_cons_zero, Option.some.injEq] at h
  subst h
  have hj := (List.getElem?_eq_some_iff.1 hu).1
  rw [List.flatMap_cons, Nat.zero_mul, Nat.zero_add, List.getElem?_append_left hj]; exact hu
 | y :: l, k + 1, j, x, u, h, hu => by
  simp only [List.getElem?_cons_succ] at h
  rw [List.flatMap_cons, List.getElem?_append_right (by rw [hf, Nat.succ_mul]; omega), hf, show (k + 1) * z + j - z = k * z + j by rw [Nat.succ_mul]; omega]
  exact flat_get f z hf l k j x u h hu
theorem flat_len {α : Type} (f : α → List Value) (z : Nat) (hf : ∀ x, (f x).length = z) (l : List α) : (l.flatMap f).length = l.length * z := by
 induction l with
 | nil => simp
 | cons x l ih => rw [List.flatMap_cons, List.length_append, ih, hf, List.length_cons, Nat.succ_mul]; omega
def IAt (w : World) (A : Option Addr) (l : List Int) : Prop := ∀ k x, l[k]? = some x → ∃ g o, A = some ⟨g, o, none⟩ ∧ g < w.heap.size ∧ w.cell? ⟨g, o + k, none⟩ = some (.int .i64 x)
theorem IAt.below {w w1 : World} {A : Option Addr} {l : List Int} {B : Nat} (h : IAt w A l) (hb : Below B w w1) (hB : w.heap.size ≤ B) : IAt w1 A l := fun k x hx => by
 obtain ⟨g, o, hA, hg, h0⟩ := h k x hx
 exact ⟨g, o, hA, Nat.lt_of_lt_of_le hg hb.size, (hb.cell (p := ⟨g, o + k, none⟩) (Nat.lt_of_lt_of_le hg hB)).trans h0⟩
def OwnI (w : World) (base : Nat) (A : Option Addr) (c : Nat) (l : List Int) : Prop := w.ownsRow base 3 1 (.slice A l.length c) l.length (l.map (Value.int .i64))
theorem OwnI.iat {w : World} {base : Nat} {A : Option Addr} {c : Nat} {l : List Int} (h : OwnI w base A c l) : IAt w A l := fun k x hx => by
 have hk := (List.getElem?_eq_some_iff.1 hx).1
 obtain ⟨g, hA, hg, _, _, hc⟩ := own_cells h (by omega)
 exact ⟨g, 0, hA, hg, by rw [Nat.zero_add]; exact hc k _ (by rw [List.getElem?_map, hx]; rfl)⟩
def WvAt (w : World) (N : Nat) (A : Option Addr) (l : List WV) : Prop := ∀ k x, l[k]? = some x → ∃ g o, A = some ⟨g, o, none⟩ ∧ g < N ∧ ∀ j u, (cellsOfW x)[j]? = some u → w.cell? ⟨g, o + (k * 4 + j), none⟩ = some u
theorem WvAt.but {w w' : World} {N rb : Nat} {A : Option Addr} {l : List WV} (h : WvAt w N A l) (hb : But rb w w') (hN : N ≤ w.heap.size) (hr : N ≤ rb) : WvAt w' N A l := fun k x hx => by
 obtain ⟨g, o, hA, hg, hc⟩ := h k x hx
 exact ⟨g, o, hA, hg, fun j u hu => (hb.cell (p := ⟨g, _, none⟩) (by show g < _; omega) (by show g ≠ _; omega)).trans (hc j u hu)⟩
theorem WvAt.below {w w' : World} {N B : Nat} {A : Option Addr} {l : List WV} (h : WvAt w N A l) (hb : Below B w w') (hN : N ≤ B) : WvAt w' N A l := fun k x hx => by
 obtain ⟨g, o, hA, hg, hc⟩ := h k x hx
 exact ⟨g, o, hA, hg, fun j u hu => (hb.cell (p := ⟨g, _, none⟩) (by show g < _; omega)).trans (hc j u hu)⟩
theorem WvAt.head {w : World} {N g o : Nat} {x : WV} {l : List WV} (h : WvAt w N (some ⟨g, o, none⟩) (x :: l)) : g < N ∧ w.cell? ⟨g, o, none⟩ = some (.int .i64 x.kind) ∧ w.cell? ⟨g, o + 1, none⟩ = some (.string x.text) ∧ w.cell? ⟨g, o + 2, none⟩ = some (.int .i64 x.num) ∧ w.cell? ⟨g, o + 3, none⟩ = some (.int .i64 x.at_) := by
 obtain ⟨g', o', hA, hg, hc⟩ := h 0 x rfl
 simp only [Option.some.injEq, Addr.mk.injEq, and_true] at hA
 obtain ⟨rfl, rfl⟩ := hA
 have c0 := hc 0 _ rfl
 have c1 := hc 1 _ rfl
 have c2 := hc 2 _ rfl
 have c3 := hc 3 _ rfl
 simp only [Nat.zero_mul, Nat.zero_add, Nat.add_zero] at c0 c1 c2 c3
 exact ⟨hg, c0, c1, c2, c3⟩
theorem WvAt.form {w : World} {N : Nat} {A : Option Addr} {x : WV} {l : List WV} (h : WvAt w N A (x :: l)) : ∃ g o, A = some ⟨g, o, none⟩ := by
 obtain ⟨g, o, hA, _⟩ := h 0 x rfl
 exact ⟨g, o, hA⟩
theorem WvAt.tail {w : World} {N g o : Nat} {x : WV} {l : List WV} (h : WvAt w N (some ⟨g, o, none⟩) (x :: l)) : WvAt w N (some ⟨g, o + 4, none⟩) l := fun k y hy => by
 obtain ⟨g', o', hA, hg, hc⟩ := h (k + 1) y (by simpa using hy)
 simp only [Option.some.injEq, Addr.mk.injEq, and_true] at hA
 obtain ⟨rfl, rfl⟩ := hA
 refine ⟨g, o + 4, rfl, hg, fun j u hu => ?_⟩
 have := hc j u hu
 rwa [show o + ((k + 1) * 4 + j) = o + 4 + (k * 4 + j) by omega] at this
theorem own_wvat {w : World} {base : Nat} {e : TypeId} {A : Option Addr} {c : Nat} {l : List WV} (h : w.ownsRow base e 4 (.slice A l.length c) l.length (flatW l)) : WvAt w w.heap.size A l := fun k x hx => by
 have hk := (List.getElem?_eq_some_iff.1 hx).1
 obtain ⟨g, hA, hg, _, _, hc⟩ := own_cells h (by omega)
 exact ⟨g, 0, hA, hg, fun j u hu => by rw [Nat.zero_add]; exact hc _ _ (flat_get cellsOfW 4 (fun _ => rfl) l k j x u hx hu)⟩
def cellsOfK (x : KV) (B : Option Addr) (d : Nat) : List Value := [.string x.key, .slice B x.vals.length d, .int .i64 x.at_]
def cellsOfX (x : IV) (B : Option Addr) (d : Nat) : List Value := [.string x.word, .string x.name, .slice B x.keys.length d, .int .i64 x.at_]
def KsAt (w : World) (A : Option Addr) (l : List KV) : Prop := ∀ k x, l[k]? = some x → ∃ g o B d, A = some ⟨g, o, none⟩ ∧ g < w.heap.size ∧ (w.cell? ⟨g, o + k * 3, none⟩ = some (.string x.key) ∧ w.cell? ⟨g, o + k * 3 + 1, none⟩ = some (.slice B x.vals.length d) ∧ w.cell? ⟨g, o + k * 3 + 2, none⟩ = some (.int .i64 x.at_)) ∧ IAt w B x.vals
def XsAt (w : World) (A : Option Addr) (l : List IV) : Prop := ∀ k x, l[k]? = some x → ∃ g o B d, A = some ⟨g, o, none⟩ ∧ g < w.heap.size ∧ (w.cell? ⟨g, o + k * 4, none⟩ = some (.string x.word) ∧ w.cell? ⟨g, o + k * 4 + 1, none⟩ = some (.string x.name) ∧ w.cell? ⟨g, o + k * 4 + 2, none⟩ = some (.slice B x.keys.length d) ∧ w.cell? ⟨g, o + k * 4 + 3, none⟩ = some (.int .i64 x.at_)) ∧ KsAt w B x.keys
theorem KsAt.below {w w1 : World} {A : Option Addr} {l : List KV} {B : Nat} (h : KsAt w A l) (hb : Below B w w1) (hB : w.heap.size ≤ B) : KsAt w1 A l := fun k x hx => by
 obtain ⟨g, o, B', d, hA, hg, ⟨h0, h1, h2⟩, hi⟩ := h k x hx
 have hc := fun j => hb.cell (p := ⟨g, j, none⟩) (Nat.lt_of_lt_of_le hg hB)
 exact ⟨g, o, B', d, hA, Nat.lt_of_lt_of_le hg hb.size, ⟨(hc _).trans h0, (hc _).trans h1, (hc _).trans h2⟩, hi.below hb hB⟩
theorem XsAt.below {w w1 : World} {A : Option Addr} {l : List IV} {B : Nat} (h : XsAt w A l) (hb : Below B w w1) (hB : w.heap.size ≤ B) : XsAt w1 A l := fun k x hx => by
 obtain ⟨g, o, B', d, hA, hg, ⟨h0, h1, h2, h3⟩, hi⟩ := h k x hx
 have hc := fun j => hb.cell (p := ⟨g, j, none⟩) (Nat.lt_of_lt_of_le hg hB)
 exact ⟨g, o, B', d, hA, Nat.lt_of_lt_of_le hg hb.size, ⟨(hc _).trans h0, (hc _).trans h1, (hc _).trans h2, (hc _).trans h3⟩, hi.below hb hB⟩
theorem IAt.nil (w : World) (A : Option Addr) : IAt w A [] := fun k x h => by simp at h
theorem KsAt.nil (w : World) (A : Option Addr) : KsAt w A [] := fun k x h => by simp at h
theorem XsAt.nil (w : World) (A : Option Addr) : XsAt w A [] := fun k x h => by simp at h
def KsOwn (w : World) (base : Nat) (tK : TypeId) (A : Option Addr) (c : Nat) (l : List KV) : Prop :=
  ∃ ps : List (KV × Option Addr × Nat), ps.map (·.1) = l ∧ w.ownsRow base tK 3 (.slice A l.length c) l.length (ps.flatMap fun p => cellsOfK p.1 p.2.1 p.2.2) ∧ ∀ p ∈ ps, OwnI w base p.2.1 p.2.2 p.1.vals
def XsOwn (w : World) (base : Nat) (tX tK : TypeId) (A : Option Addr) (c : Nat) (l : List IV) : Prop :=
  ∃ ps : List (IV × Option Addr × Nat), ps.map (·.1) = l ∧ w.ownsRow base tX 4 (.slice A l.length c) l.length (ps.flatMap fun p => cellsOfX p.1 p.2.1 p.2.2) ∧ ∀ p ∈ ps, KsOwn w base tK p.2.1 p.2.2 p.1.keys
theorem KsOwn.nil (w : World) (base : Nat) (tK : TypeId) : KsOwn w base tK none 0 [] := ⟨[], rfl, World.ownsRow_nil _ _ _ _, by simp⟩
theorem XsOwn.nil (w : World) (base : Nat) (tX tK : TypeId) : XsOwn w base tX tK none 0 [] := ⟨[], rfl, World.ownsRow_nil _ _ _ _, by simp⟩
theorem OwnI.nil (w : World) (base : Nat) : OwnI w base none 0 [] := World.ownsRow_nil _ _ _ _
theorem OwnI.but {w w' : World} {rb base : Nat} {A : Option Addr} {c : Nat} {l : List Int} (h : OwnI w base A c l) (hb : But rb w w') (hr : rb < base) : OwnI w' base A c l := own_but h hb hr
theorem KsOwn.but {w w' : World} {rb base : Nat} {tK : TypeId} {A : Option Addr} {c : Nat} {l : List KV} (h : KsOwn w base tK A c l) (hb : But rb w w') (hr : rb < base) : KsOwn w' base tK A c l := by
 obtain ⟨ps, h1, h2, h3⟩ := h
 exact ⟨ps, h1, own_but h2 hb hr, fun p hp => (h3 p hp).but hb hr⟩
theorem XsOwn.but {w w' : World} {rb base : Nat} {tX tK : TypeId} {A : Option Addr} {c : Nat} {l : List IV} (h : XsOwn w base tX tK A c l) (hb : But rb w w') (hr : rb < base) : XsOwn w' base tX tK A c l := by
 obtain ⟨ps, h1, h2, h3⟩ := h
 exact ⟨ps, h1, own_but h2 hb hr, fun p hp => (h3 p hp).but hb hr⟩
theorem OwnI.weaker {w : World} {base base' : Nat} {A : Option Addr} {c : Nat} {l : List Int} (h : OwnI w base A c l) (hb : base' ≤ base) : OwnI w base' A c l := ownr_weaker h hb
theorem KsOwn.weaker {w : World} {base base' : Nat} {tK : TypeId} {A : Option Addr} {c : Nat} {l : List KV} (h : KsOwn w base tK A c l) (hb : base' ≤ base) : KsOwn w base' tK A c l := by
 obtain ⟨ps, h1, h2, h3⟩ := h
 exact ⟨ps, h1, ownr_weaker h2 hb, fun p hp => (h3 p hp).weaker hb⟩
theorem KsOwn.below {w w' : World} {base B : Nat} {tK : TypeId} {A : Option Addr} {c : Nat} {l : List KV} (h : KsOwn w base tK A c l) (hb : Below B w w') (hB : w.heap.size ≤ B) : KsOwn w' base tK A c l := by
 obtain ⟨ps, h1, h2, h3⟩ := h
 exact ⟨ps, h1, own_below h2 hb hB, fun p hp => own_below (h3 p hp) hb hB⟩
theorem XsOwn.below {w w' : World} {base B : Nat} {tX tK : TypeId} {A : Option Addr} {c : Nat} {l : List IV} (h : XsOwn w base tX tK A c l) (hb : Below B w w') (hB : w.heap.size ≤ B) : XsOwn w' base tX tK A c l := by
 obtain ⟨ps, h1, h2, h3⟩ := h
 exact ⟨ps, h1, own_below h2 hb hB, fun p hp => (h3 p hp).below hb hB⟩
theorem KsOwn.kept {w w' : World} {base b2 z2 n2 : Nat} {tK e2 : TypeId} {A : Option Addr} {c : Nat} {l : List KV} {v2 : Value} {x2 : List Value} (h : KsOwn w base tK A c l) (h2 : w.ownsRow b2 e2 z2 v2 n2 x2) (n1 : tK ≠ e2) (n2' : 3 ≠ e2) (hg : w.grownBy w' v2.ownBlock) : KsOwn w' base tK A c l := by
 obtain ⟨ps, h1, h2', h3⟩ := h
 exact ⟨ps, h1, own_kept h2' h2 n1 hg, fun p hp => own_kept (h3 p hp) h2 n2' hg⟩
theorem KsOwn.at {w : World} {base : Nat} {tK : TypeId} {A : Option Addr} {c : Nat} {l : List KV} (h : KsOwn w base tK A c l) : KsAt w A l := fun k x hx => by
 obtain ⟨ps, rfl, h2, h3⟩ := h
 have hk := (List.getElem?_eq_some_iff.1 hx).1
 rw [List.getElem?_map] at hx
 obtain ⟨p, hp, rfl⟩ := Option.map_eq_some_iff.1 hx
 obtain ⟨g, hA, hg, _, _, hc⟩ := own_cells h2 (by omega)
 have hc' := fun j u hu => hc _ _ (flat_get (fun p : KV × Option Addr × Nat => cellsOfK p.1 p.2.1 p.2.2) 3 (fun _ => rfl) ps k j p u hp hu)
 have c0 := hc' 0 _ rfl
 have c1 := hc' 1 _ rfl
 have c2 := hc' 2 _ rfl
 refine ⟨g, 0, p.2.1, p.2.2, hA, hg, ⟨?_, ?_, ?_⟩, (h3 p (List.mem_of_getElem? hp)).iat⟩
 · rw [Nat.zero_add]; exact c0
 · rw [Nat.zero_add]; exact c1
 · rw [Nat.zero_add]; exact c2
theorem XsOwn.at {w : World} {base : Nat} {tX tK : TypeId} {A : Option Addr} {c : Nat} {l : List IV} (h : XsOwn w base tX tK A c l) : XsAt w A l := fun k x hx => by
 obtain ⟨ps, rfl, h2, h3⟩ := h
 have hk := (List.getElem?_eq_some_iff.1 hx).1
 rw [List.getElem?_map] at hx
 obtain ⟨p, hp, rfl⟩ := Option.map_eq_some_iff.1 hx
 obtain ⟨g, hA, hg, _, _, hc⟩ := own_cells h2 (by omega)
 have hc' := fun j u hu => hc _ _ (flat_get (fun p : IV × Option Addr × Nat => cellsOfX p.1 p.2.1 p.2.2) 4 (fun _ => rfl) ps k j p u hp hu)
 have c0 := hc' 0 _ rfl
 have c1 := hc' 1 _ rfl
 have c2 := hc' 2 _ rfl
 have c3 := hc' 3 _ rfl
 refine ⟨g, 0, p.2.1, p.2.2, hA, hg, ⟨?_, ?_, ?_, ?_⟩, (h3 p (List.mem_of_getElem? hp)).at⟩
 · rw [Nat.zero_add]; exact c0
 · rw [Nat.zero_add]; exact c1
 · rw [Nat.zero_add]; exact c2
 · rw [Nat.zero_add]; exact c3
theorem KsOwn.snoc {w w' : World} {base : Nat} {tK : TypeId} {A : Option Addr} {c : Nat} {ps : List (KV × Option Addr × Nat)} {x : KV} {B : Option Addr} {d : Nat} {v' : Value} (hne : tK ≠ 3)
  (h2 : w.ownsRow base tK 3 (.slice A ps.length c) ps.length (ps.flatMap fun p => cellsOfK p.1 p.2.1 p.2.2)) (h3 : ∀ p ∈ ps, OwnI w base p.2.1 p.2.2 p.1.vals) (hx : OwnI w base B d x.vals)
  (hw : w'.ownsRow base tK 3 v' (ps.length + 1) ((ps.flatMap fun p => cellsOfK p.1 p.2.1 p.2.2) ++ cellsOfK x B d)) (hg : w.grownBy w' (Value.ownBlock (.slice A ps.length c))) :
  ∃ A' c', v' = .slice A' (ps.map (·.1) ++ [x]).length c' ∧ KsOwn w' base tK A' c' (ps.map (·.1) ++ [x]) := by
 obtain ⟨A', c', rfl⟩ := own_sl hw
 refine ⟨A', c', by simp, ps ++ [(x, B, d)], by simp, by simpa using hw, fun p hp => ?_⟩
 rcases List.mem_append.1 hp with h | h
 · exact own_kept (h3 p h) h2 (Ne.symm hne) hg
 · simp only [List.mem_singleton] at h
   subst h
   exact own_kept hx h2 (Ne.symm hne) hg
theorem XsOwn.snoc {w w' : World} {base : Nat} {tX tK : TypeId} {A : Option Addr} {c : Nat} {ps : List (IV × Option Addr × Nat)} {x : IV} {B : Option Addr} {d : Nat} {v' : Value} (n1 : tK ≠ tX) (n2 : 3 ≠ tX)
  (h2 : w.ownsRow base tX 4 (.slice A ps.length c) ps.length (ps.flatMap fun p => cellsOfX p.1 p.2.1 p.2.2)) (h3 : ∀ p ∈ ps, KsOwn w base tK p.2.1 p.2.2 p.1.keys) (hx : KsOwn w base tK B d x.keys)
  (hw : w'.ownsRow base tX 4 v' (ps.length + 1) ((ps.flatMap fun p => cellsOfX p.1 p.2.1 p.2.2) ++ cellsOfX x B d)) (hg : w.grownBy w' (Value.ownBlock (.slice A ps.length c))) :
  ∃ A' c', v' = .slice A' (ps.map (·.1) ++ [x]).length c' ∧ XsOwn w' base tX tK A' c' (ps.map (·.1) ++ [x]) := by
 obtain ⟨A', c', rfl⟩ := own_sl hw
 refine ⟨A', c', by simp, ps ++ [(x, B, d)], by simp, by simpa using hw, fun p hp => ?_⟩
 rcases List.mem_append.1 hp with h | h
 · exact (h3 p h).kept h2 n1 n2 hg
 · simp only [List.mem_singleton] at h
   subst h
   exact hx.kept h2 n1 n2 hg
theorem intInfo : (Tryz.prog.info? 3).map (fun i => (i.zero, i.size, i.bytes)) = some (some (.int .i64 0), 1, 8) := by kernel_rfl
theorem keyInfo : (Tryz.prog.info? 120).map (fun i => (i.zero, i.size, i.bytes)) = some (some (.agg #[.string ⟨#[]⟩, .slice none 0 0, .int .i64 0]), 3, 48) := by kernel_rfl
theorem itemInfo : (Tryz.prog.info? 97).map (fun i => (i.zero, i.size, i.bytes)) = some (some (.agg #[.string ⟨#[]⟩, .string ⟨#[]⟩, .slice none 0 0, .int .i64 0]), 4, 64) := by kernel_rfl
theorem fold_next {α β : Type} {f : β → α → β} {s : β} {l : List α} {k : Nat} {x : α} (h : l[k]? = some x) : (l.take (k + 1)).foldl f s = f ((l.take k).foldl f s) x := by
 obtain ⟨h1, rfl⟩ := List.getElem?_eq_some_iff.1 h
 rw [List.take_succ_eq_append_getElem h1, List.foldl_append]
 rfl
abbrev CS := Int × List ByteArray
def Wl.fB (x : Wl) : Bool := ((((in1 0 3 x.lv && in1 1 4 x.kd) && (nearV 1048576 ⟨x.a1, x.a2⟩ && nearV 1048576 ⟨x.b1, x.b2⟩)) && (in1 0 15 x.rs && in1 0 15 x.gr)) && (in1 0 16384 x.kk && in1 0 16384 x.mn)) && (in1 (-1) 31 x.cl && in1 (-1) 63 x.sw)
def Wl.sB (x : Wl) : Bool := !(decide (x.a1 = x.b1) && decide (x.a2 = x.b2))
def Wl.look (s : CS) (x : Wl) : CS := lookR s x.nm x.fB x.sB
def rootAux : Nat → Int → Int → Int
  | 0, _, r => r
  | i + 1, n, r => if (r + 2 ^ i) * (r + 2 ^ i) ≤ n then rootAux i n (r + 2 ^ i) else rootAux i n r
def rootR (n : Int) : Int := if n ≤ 0 then 0 else rootAux 32 n 0
theorem rootAux_sq : ∀ (i : Nat) (n r : Int), 0 ≤ r → r * r ≤ n → 0 ≤ rootAux i n r ∧ rootAux i n r * rootAux i n r ≤ n
 | 0, n, r, h0, h1 => ⟨h0, h1⟩
 | i + 1, n, r, h0, h1 => by
  have hp : (0 : Int) ≤ 2 ^ i := Int.le_of_lt (Int.pow_pos (by omega))
  unfold rootAux
  split
  · exact rootAux_sq i n _ (by omega) (by assumption)
  · exact rootAux_sq i n r h0 h1
theorem rootR_sq {n : Int} (h : 0 ≤ n) : 0 ≤ rootR n ∧ rootR n * rootR n ≤ n := by
 unfold rootR
 split
 · exact ⟨by omega, by omega⟩
 · exact rootAux_sq 32 n 0 (by omega) (by omega)
def Ac.n1 (x : Ac) : Int := (x.s1 - x.c1) * (x.s1 - x.c1) + (x.s2 - x.c2) * (x.s2 - x.c2)
def Ac.n2 (x : Ac) : Int := (x.e1 - x.c1) * (x.e1 - x.c1) + (x.e2 - x.c2) * (x.e2 - x.c2)
def Ac.tn (x : Ac) : Int := (x.s1 - x.c1) * (x.e2 - x.c2) - (x.s2 - x.c2) * (x.e1 - x.c1)
def roundB (x : Ac) (rad : Int) : Bool := decide (x.n1 = x.n2) && decide (rootR x.n1 * rootR x.n1 = x.n1) && decide (2 * rad < rootR x.n1) && decide (rootR x.n1 ≤ 262144) && decide (0 < x.tn)
def Ac.pB (x : Ac) : Bool := nearV 1048576 ⟨x.c1, x.c2⟩ && (nearV 1048576 ⟨x.s1, x.s2⟩ && nearV 1048576 ⟨x.e1, x.e2⟩)
def Ac.fB (x : Ac) : Bool := (((in1 0 3 x.lv && x.pB) && (in1 0 15 x.rs && in1 0 15 x.gr)) && in1 0 16384 x.mn) && in1 (-1) 63 x.sw
def Ac.look (rad : Int) (s : CS) (x : Ac) : CS := lookR s x.nm x.fB (x.fB && roundB x rad)
def Ps.fB (x : Ps) : Bool := ((((in1 0 3 x.lv && nearV 1048576 ⟨x.c1, x.c2⟩) && in1 0 262144 x.sz) && (in1 0 15 x.rs && in1 0 15 x.gr)) && (in1 0 16384 x.kk && in1 0 16384 x.mn)) && (in1 (-1) 31 x.cl && in1 (-1) 63 x.sw)
def Ps.look (s : CS) (x : Ps) : CS := lookR s x.nm x.fB true
def Fl.gB (x : Fl) : Bool := (((((in1 0 3 x.lv && nearV 1048576 ⟨x.p1, x.p2⟩) && in1 1 262144 x.ln) && (in1 (-256) 256 x.lo && in1 (-256) 256 x.hi)) && decide (x.lo < x.hi)) && (in1 1 64 x.up && (in1 1 64 x.dn && in1 1 64 x.mx))) && decide (x.mx * x.ln ≤ 2097152)
def Fl.fB (x : Fl) : Bool := (x.gB && (in1 0 15 x.rs && in1 0 15 x.gr)) && (in1 (-1) 31 x.cl && in1 (-1) 63 x.sw)
def Fl.look (s : CS) (x : Fl) : CS := lookR s x.nm x.fB true
def Zn.fB (x : Zn) : Bool := ((in1 0 3 x.lv && (nearV 1048576 ⟨x.l1, x.l2⟩ && nearV 1048576 ⟨x.h1, x.h2⟩)) && nearV 256 ⟨x.f1, x.f2⟩) && in1 (-1) 31 x.cl
def Zn.sB (x : Zn) : Bool := decide (x.l1 < x.h1) && decide (x.l2 < x.h2)
def Zn.look (s : CS) (x : Zn) : CS := lookR s x.nm x.fB x.sB
def Sc.fB (x : Sc) : Bool := ((((in1 0 3 x.lv && nearV 1048576 ⟨x.c1, x.c2⟩) && in1 1 262144 x.sz) && in1 0 1048576 x.lm) && nearV 16384 ⟨x.o1, x.o2⟩) && (in1 (-1) 31 x.cl && in1 (-1) 63 x.sw)
def Sc.look (rad : Int) (s : CS) (x : Sc) : CS := lookR s x.nm x.fB (decide (x.sz < rad))
def La.fB (x : La) : Bool := ((in1 0 3 x.lv && nearV 1048576 ⟨x.c1, x.c2⟩) && in1 1 262144 x.sz) && in1 (-1) 63 x.sw
def La.look (s : CS) (x : La) : CS := lookR s x.nm x.fB true
def Ra.fB (x : Ra) : Bool := (((in1 0 3 x.fr && in1 0 3 x.to) && nearV 1048576 ⟨x.c1, x.c2⟩) && in1 1 262144 x.sz) && nearV 16384 ⟨x.d1, x.d2⟩
def Ra.sB (x : Ra) : Bool := (!decide (x.fr = x.to)) && !(decide (x.d1 = 0) && decide (x.d2 = 0))
def Ra.look (s : CS) (x : Ra) : CS := lookR s x.nm x.fB x.sB
def Dr.fB (x : Dr) : Bool := (in1 0 3 x.lv && nearV 1048576 ⟨x.c1, x.c2⟩) && in1 1 262144 x.sz
def Dr.look (s : CS) (x : Dr) : CS := lookR s x.nm x.fB true
def Ln.fB (x : Ln) : Bool := ((in1 0 3 x.lv && nearV 1048576 ⟨x.a1, x.a2⟩) && nearV 16384 ⟨x.v1, x.v2⟩) && in1 0 31 x.cl
def Ln.look (s : CS) (x : Ln) : CS := lookR s x.nm x.fB true
def Tb.fold (t : Tb) : CS :=
  t.lns.foldl Ln.look (t.ds.foldl Dr.look (t.rs.foldl Ra.look (t.las.foldl La.look (t.ss.foldl (Sc.look t.rad) (t.zs.foldl Zn.look (t.fs.foldl Fl.look (t.ps.foldl Ps.look (t.ars.foldl (Ac.look t.rad) (t.ws.foldl Wl.look (0, []))))))))))
def nearR (a b : Vc) (n : Int) : Bool := decide ((a.x - b.x) * (a.x - b.x) + (a.y - b.y) * (a.y - b.y) < n * n)
def overA {α : Type} (f : α → α → Bool) : List α → List α → Bool
  | _, [] => false
  | seen, a :: r => seen.any (f a) || overA f (seen ++ [a]) r
def Sc.ov (a b : Sc) : Bool := decide (a.lv = b.lv) && nearR ⟨a.c1, a.c2⟩ ⟨b.c1, b.c2⟩ (a.sz + b.sz)
def Ra.ov (a b : Ra) : Bool := decide (a.fr = b.fr) && nearR ⟨a.c1, a.c2⟩ ⟨b.c1, b.c2⟩ (a.sz + b.sz)
def Ln.ov (rad : Int) (a b : Ln) : Bool := decide (a.lv = b.lv) && nearR ⟨a.a1, a.a2⟩ ⟨b.a1, b.a2⟩ (2 * rad)
def Tb.over (t : Tb) : Bool := overA Sc.ov [] t.ss || (overA Ra.ov [] t.rs || overA (Ln.ov t.rad) [] t.lns)
def Tb.many (t : Tb) : Bool :=
  decide (64 < (t.ws.length : Int)) || decide (32 < (t.ars.length : Int)) || decide (32 < (t.ps.length : Int)) || decide (4 < (t.fs.length : Int)) || decide (16 < (t.zs.length : Int))
  || (decide (8 < (t.ss.length : Int)) || decide (24 < (t.las.length : Int)) || decide (8 < (t.rs.length : Int)) || decide (4 < (t.ds.length : Int)) || decide (4 < (t.lns.length : Int)))
  || !in1 0 6 t.bal || decide (t.bal < (t.tr.length : Int))
def Tb.headB (t : Tb) : Bool := in1 64 32768 t.rad && in1 0 15 t.rst && nearV 256 ⟨t.gx, t.gy⟩ && in1 0 1000 t.drg && in1 0 14 t.shf && inL (-1) 63 t.tr
def checkR (t : Tb) : Int := if t.many = true then 9 else if t.headB = false then 5 else if t.fold.1 = 0 ∧ t.over = true then 11 else t.fold.1
structure TbSmall (t : Tb) : Prop where
  tr : t.tr.length ≤ maxLen
  ws : ∀ x ∈ t.ws, x.nm.size ≤ maxLen
  ars : ∀ x ∈ t.ars, x.nm.size ≤ maxLen
  ps : ∀ x ∈ t.ps, x.nm.size ≤ maxLen
  fs : ∀ x ∈ t.fs, x.nm.size ≤ maxLen
  zs : ∀ x ∈ t.zs, x.nm.size ≤ maxLen
  ss : ∀ x ∈ t.ss, x.nm.size ≤ maxLen
  las : ∀ x ∈ t.las, x.nm.size ≤ maxLen
  rs : ∀ x ∈ t.rs, x.nm.size ≤ maxLen
  ds : ∀ x ∈ t.ds, x.nm.size ≤ maxLen
  lns : ∀ x ∈ t.lns, x.nm.size ≤ maxLen
theorem txt_eqL {a : ByteArray} {l : List UInt8} (h : a = ⟨l.toArray⟩) : (a.toList == l) = true := by
 subst h
 rw [ByteArray.toList_eq]
 simp
theorem txt_neL {a : ByteArray} {l : List UInt8} (h : ¬ a = ⟨l.toArray⟩) : (a.toList == l) = false := by
 rw [beq_eq_false_iff_ne]
 intro e
 rw [ByteArray.toList_eq] at e
 exact h (ByteArray.ext (by rw [← e]))
theorem txt_neT {a b : ByteArray} (hne : ¬ a = b) : (a.toList == b.toList) = false := by
 rw [beq_eq_false_iff_ne]
 intro e
 rw [ByteArray.toList_eq, ByteArray.toList_eq] at e
 exact hne (ByteArray.ext (Array.ext' e))
theorem txtOf_none {s : ByteArray} (h : ∀ p ∈ txtTab, ¬ s = p.1) : txtOf s = ⟨#[]⟩ := by
 have : txtTab.find? (fun p => decide (p.1 = s)) = none := by
  rw [List.find?_eq_none]
  intro p hp
  have := h p hp
  simp only [decide_eq_true_eq]
  exact fun e => this e.symm
 unfold txtOf
 rw [this]
set_option maxRecDepth 100000 in
set_option maxHeartbeats 4000000 in
theorem keys_any (s : ByteArray) (w : World) : Calls Tryz.prog 155 #[.string s] w fun e w' => e = .returned (.string (txtOf s)) ∧ Below w.heap.size w w' := by
 by_cases h0 : s = ⟨[116, 97, 98, 108, 101].toArray⟩
 · have b0 := txt_eqL h0
   have hT : txtOf s = ⟨#[114, 97, 100, 105, 117, 115, 32, 49, 32, 98, 97, 108, 108, 115, 32, 49, 32, 103, 114, 97, 118, 105, 116, 121, 32, 50, 32, 100, 114, 97, 103, 32, 50, 32, 114, 101, 115, 116, 32, 49, 32, 116, 114, 111, 117, 103, 104, 32, 49]⟩ := by rw [h0]; exact rfl
   rw [hT]
   clear h0 hT
   go_enter Tryz.func155, Tryz.ntmps155; (try simp only [List.append_eq, List.cons_append, List.nil_append])
   go_wp2_with fail
   go_ret
   exact ⟨rfl, Below.refl _ _⟩
 have b0 := txt_neL h0
 by_cases h1 : s = ⟨[119, 97, 108, 108].toArray⟩
 · have b1 := txt_eqL h1
   have hT : txtOf s = ⟨#[108, 101, 118, 101, 108, 32, 49, 32, 102, 114, 111, 109, 32, 50, 32, 116, 111, 32, 50, 32, 114, 101, 115, 116, 32, 49, 32, 103, 114, 105, 112, 32, 49, 32, 107, 105, 99, 107, 32, 49, 32, 109, 105, 110, 32, 49, 32, 99, 111, 105, 108, 32, 49, 32, 115, 119, 105, 116, 99, 104, 32, 49]⟩ := by rw [h1]; exact rfl
   rw [hT]
   clear h1 hT
   go_enter Tryz.func155, Tryz.ntmps155; (try simp only [List.append_eq, List.cons_append, List.nil_append])
   go_wp2_with fail
   go_ret
   exact ⟨rfl, Below.refl _ _⟩
 have b1 := txt_neL h1
 by_cases h2 : s = ⟨[103, 97, 116, 101].toArray⟩
 · have b2 := txt_eqL h2
   have hT : txtOf s = ⟨#[108, 101, 118, 101, 108, 32, 49, 32, 102, 114, 111, 109, 32, 50, 32, 116, 111, 32, 50, 32, 114, 101, 115, 116, 32, 49, 32, 103, 114, 105, 112, 32, 49, 32, 107, 105, 99, 107, 32, 49, 32, 109, 105, 110, 32, 49, 32, 99, 111, 105, 108, 32, 49, 32, 115, 119, 105, 116, 99, 104, 32, 49]⟩ := by rw [h2]; exact rfl
   rw [hT]
   clear h2 hT
   go_enter Tryz.func155, Tryz.ntmps155; (try simp only [List.append_eq, List.cons_append, List.nil_append])
   go_wp2_with fail
   go_ret
   exact ⟨rfl, Below.refl _ _⟩
 have b2 := txt_neL h2
 by_cases h3 : s = ⟨[116, 97, 114, 103, 101, 116].toArray⟩
 · have b3 := txt_eqL h3
   have hT : txtOf s = ⟨#[108, 101, 118, 101, 108, 32, 49, 32, 102, 114, 111, 109, 32, 50, 32, 116, 111, 32, 50, 32, 114, 101, 115, 116, 32, 49, 32, 103, 114, 105, 112, 32, 49, 32, 107, 105, 99, 107, 32, 49, 32, 109, 105, 110, 32, 49, 32, 99, 111, 105, 108, 32, 49, 32, 115, 119, 105, 116, 99, 104, 32, 49]⟩ := by rw [h3]; exact rfl
   rw [hT]
   clear h3 hT
   go_enter Tryz.func155, Tryz.ntmps155; (try simp only [List.append_eq, List.cons_append, List.nil_append])
   go_wp2_with fail
   go_ret
   exact ⟨rfl, Below.refl _ _⟩
 have b3 := txt_neL h3
 by_cases h4 : s = ⟨[115, 108, 105, 110, 103].toArray⟩
 · have b4 := txt_eqL h4
   have hT : txtOf s = ⟨#[108, 101, 118, 101, 108, 32, 49, 32, 102, 114, 111, 109, 32, 50, 32, 116, 111, 32, 50, 32, 114, 101, 115, 116, 32, 49, 32, 103, 114, 105, 112, 32, 49, 32, 107, 105, 99, 107, 32, 49, 32, 109, 105, 110, 32, 49, 32, 99, 111, 105, 108, 32, 49, 32, 115, 119, 105, 116, 99, 104, 32, 49]⟩ := by rw [h4]; exact rfl
   rw [hT]
   clear h4 hT
   go_enter Tryz.func155, Tryz.ntmps155; (try simp only [List.append_eq, List.cons_append, List.nil_append])
   go_wp2_with fail
   go_ret
   exact ⟨rfl, Below.refl _ _⟩
 have b4 := txt_neL h4
 by_cases h5 : s = ⟨[97, 114, 99].toArray⟩
 · have b5 := txt_eqL h5
   have hT : txtOf s = ⟨#[108, 101, 118, 101, 108, 32, 49, 32, 99, 101, 110, 116, 101, 114, 32, 50, 32, 102, 114, 111, 109, 32, 50, 32, 116, 111, 32, 50, 32, 114, 101, 115, 116, 32, 49, 32, 103, 114, 105, 112, 32, 49, 32, 109, 105, 110, 32, 49, 32, 115, 119, 105, 116, 99, 104, 32, 49]⟩ := by rw [h5]; exact rfl
   rw [hT]
   clear h5 hT
   go_enter Tryz.func155, Tryz.ntmps155; (try simp only [List.append_eq, List.cons_append, List.nil_append])
   go_wp2_with fail
   go_ret
   exact ⟨rfl, Below.refl _ _⟩
 have b5 := txt_neL h5
 by_cases h6 : s = ⟨[112, 111, 115, 116].toArray⟩
 · have b6 := txt_eqL h6
   have hT : txtOf s = ⟨#[108, 101, 118, 101, 108, 32, 49, 32, 99, 101, 110, 116, 101, 114, 32, 50, 32, 115, 105, 122, 101, 32, 49, 32, 114, 101, 115, 116, 32, 49, 32, 103, 114, 105, 112, 32, 49, 32, 107, 105, 99, 107, 32, 49, 32, 109, 105, 110, 32, 49, 32, 99, 111, 105, 108, 32, 49, 32, 115, 119, 105, 116, 99, 104, 32, 49]⟩ := by rw [h6]; exact rfl
   rw [hT]
   clear h6 hT
   go_enter Tryz.func155, Tryz.ntmps155; (try simp only [List.append_eq, List.cons_append, List.nil_append])
   go_wp2_with fail
   go_ret
   exact ⟨rfl, Below.refl _ _⟩
 have b6 := txt_neL h6
 by_cases h7 : s = ⟨[102, 108, 105, 112, 112, 101, 114].toArray⟩
 · have b7 := txt_eqL h7
   have hT : txtOf s = ⟨#[108, 101, 118, 101, 108, 32, 49, 32, 99, 101, 110, 116, 101, 114, 32, 50, 32, 108, 101, 110, 103, 116, 104, 32, 49, 32, 109, 105, 114, 114, 111, 114, 32, 48, 32, 114, 97, 110, 103, 101, 32, 50, 32, 117, 112, 32, 49, 32, 100, 111, 119, 110, 32, 49, 32, 109, 97, 120, 32, 49, 32, 114, 101, 115, 116, 32, 49, 32, 103, 114, 105, 112, 32, 49, 32, 99, 111, 105, 108, 32, 49, 32, 115, 119, 105, 116, 99, 104, 32, 49]⟩ := by rw [h7]; exact rfl
   rw [hT]
   clear h7 hT
   go_enter Tryz.func155, Tryz.ntmps155; (try simp only [List.append_eq, List.cons_append, List.nil_append])
   go_wp2_with fail
   go_ret
   exact ⟨rfl, Below.refl _ _⟩
 have b7 := txt_neL h7
 by_cases h8 : s = ⟨[122, 111, 110, 101].toArray⟩
 · have b8 := txt_eqL h8
   have hT : txtOf s = ⟨#[108, 101, 118, 101, 108, 32, 49, 32, 102, 114, 111, 109, 32, 50, 32, 116, 111, 32, 50, 32, 104, 97, 108, 102, 32, 50, 32, 99, 111, 105, 108, 32, 49]⟩ := by rw [h8]; exact rfl
   rw [hT]
   clear h8 hT
   go_enter Tryz.func155, Tryz.ntmps155; (try simp only [List.append_eq, List.cons_append, List.nil_append])
   go_wp2_with fail
   go_ret
   exact ⟨rfl, Below.refl _ _⟩
 have b8 := txt_neL h8
 by_cases h9 : s = ⟨[115, 97, 117, 99, 101, 114].toArray⟩
 · have b9 := txt_eqL h9
   have hT : txtOf s = ⟨#[108, 101, 118, 101, 108, 32, 49, 32, 99, 101, 110, 116, 101, 114, 32, 50, 32, 115, 105, 122, 101, 32, 49, 32, 108, 105, 109, 105, 116, 32, 49, 32, 111, 117, 116, 32, 50, 32, 99, 111, 105, 108, 32, 49, 32, 115, 119, 105, 116, 99, 104, 32, 49]⟩ := by rw [h9]; exact rfl
   rw [hT]
   clear h9 hT
   go_enter Tryz.func155, Tryz.ntmps155; (try simp only [List.append_eq, List.cons_append, List.nil_append])
   go_wp2_with fail
   go_ret
   exact ⟨rfl, Below.refl _ _⟩
 have b9 := txt_neL h9
 by_cases h10 : s = ⟨[108, 97, 110, 101].toArray⟩
 · have b10 := txt_eqL h10
   have hT : txtOf s = ⟨#[108, 101, 118, 101, 108, 32, 49, 32, 99, 101, 110, 116, 101, 114, 32, 50, 32, 115, 105, 122, 101, 32, 49, 32, 115, 119, 105, 116, 99, 104, 32, 49]⟩ := by rw [h10]; exact rfl
   rw [hT]
   clear h10 hT
   go_enter Tryz.func155, Tryz.ntmps155; (try simp only [List.append_eq, List.cons_append, List.nil_append])
   go_wp2_with fail
   go_ret
   exact ⟨rfl, Below.refl _ _⟩
 have b10 := txt_neL h10
 by_cases h11 : s = ⟨[114, 97, 109, 112].toArray⟩
 · have b11 := txt_eqL h11
   have hT : txtOf s = ⟨#[108, 101, 118, 101, 108, 32, 49, 32, 105, 110, 116, 111, 32, 49, 32, 99, 101, 110, 116, 101, 114, 32, 50, 32, 115, 105, 122, 101, 32, 49, 32, 100, 105, 114, 32, 50]⟩ := by rw [h11]; exact rfl
   rw [hT]
   clear h11 hT
   go_enter Tryz.func155, Tryz.ntmps155; (try simp only [List.append_eq, List.cons_append, List.nil_append])
   go_wp2_with fail
   go_ret
   exact ⟨rfl, Below.refl _ _⟩
 have b11 := txt_neL h11
 by_cases h12 : s = ⟨[100, 114, 97, 105, 110].toArray⟩
 · have b12 := txt_eqL h12
   have hT : txtOf s = ⟨#[108, 101, 118, 101, 108, 32, 49, 32, 99, 101, 110, 116, 101, 114, 32, 50, 32, 115, 105, 122, 101, 32, 49]⟩ := by rw [h12]; exact rfl
   rw [hT]
   clear h12 hT
   go_enter Tryz.func155, Tryz.ntmps155; (try simp only [List.append_eq, List.cons_append, List.nil_append])
   go_wp2_with fail
   go_ret
   exact ⟨rfl, Below.refl _ _⟩
 have b12 := txt_neL h12
 by_cases h13 : s = ⟨[108, 97, 117, 110, 99, 104, 101, 114].toArray⟩
 · have b13 := txt_eqL h13
   have hT : txtOf s = ⟨#[108, 101, 118, 101, 108, 32, 49, 32, 99, 101, 110, 116, 101, 114, 32, 50, 32, 111, 117, 116, 32, 50, 32, 99, 111, 105, 108, 32, 49]⟩ := by rw [h13]; exact rfl
   rw [hT]
   clear h13 hT
   go_enter Tryz.func155, Tryz.ntmps155; (try simp only [List.append_eq, List.cons_append, List.nil_append])
   go_wp2_with fail
   go_ret
   exact ⟨rfl, Below.refl _ _⟩
 have b13 := txt_neL h13
 have hT : txtOf s = ⟨#[]⟩ := txtOf_none (by intro p hp; simp only [txtTab, List.mem_cons, List.not_mem_nil, or_false] at hp; rcases hp with rfl | rfl | rfl | rfl | rfl | rfl | rfl | rfl | rfl | rfl | rfl | rfl | rfl | rfl <;> assumption)
 rw [hT]
 clear hT h0 h1 h2 h3 h4 h5 h6 h7 h8 h9 h10 h11 h12 h13
 go_enter Tryz.func155, Tryz.ntmps155; (try simp only [List.append_eq, List.cons_append, List.nil_append])
 go_wp2_with fail
 go_ret
 exact ⟨rfl, Below.refl _ _⟩
structure Tabs (w : World) : Prop where
  sp : Lib.TabIs Tryz.prog w "strings.asciiSpace" .u8 Lib.asciiSpaceTab
  pw : Lib.TabIs Tryz.prog w "internal/strconv.uint64pow10" .u64 Lib.pow10Tab
theorem tab_block {w w' : World} {name : String} {k : IntKind} {zs : List Int} {g : Nat} (hg : Tryz.prog.globalNamed name = some g) (h : Lib.TabIs Tryz.prog w name k zs) (hb : w'.heap[g]? = w.heap[g]?) : Lib.TabIs Tryz.prog w' name k zs := by
 unfold Lib.TabIs World.var? at *
 rw [hg] at *
 simp only [Option.bind_some] at *
 rw [hb]; exact h
theorem tab_lt {w : World} {name : String} {k : IntKind} {zs : List Int} {g : Nat} (hg : Tryz.prog.globalNamed name = some g) (h : Lib.TabIs Tryz.prog w name k zs) : g < w.heap.size := by
 rcases Nat.lt_or_ge g w.heap.size with h1 | h1
 · exact h1
 · unfold Lib.TabIs World.var? at h
   rw [hg] at h
   simp only [Option.bind_some, Array.getElem?_eq_none h1] at h
   cases h
theorem gSp : Tryz.prog.globalNamed "strings.asciiSpace" = some 0 := by kernel_rfl
theorem gPw : Tryz.prog.globalNamed "internal/strconv.uint64pow10" = some 2 := by kernel_rfl
theorem Tabs.three {w : World} (h : Tabs w) : 3 ≤ w.heap.size := by
 have := tab_lt gPw h.pw
 omega
theorem Tabs.below {w w' : World} {B : Nat} (h : Tabs w) (hb : Below B w w') (hB : 3 ≤ B) : Tabs w' := ⟨tab_block gSp h.sp (hb.block _ (by omega)), tab_block gPw h.pw (hb.block _ (by omega))⟩
theorem Tabs.but {w w' : World} {rb : Nat} (h : Tabs w) (hb : But rb w w') (hr : 3 ≤ rb) : Tabs w' := by
 have := h.three
 exact ⟨tab_block gSp h.sp (hb.block _ (by omega) (by omega)), tab_block gPw h.pw (hb.block _ (by omega) (by omega))⟩
theorem Tabs.alloc {w : World} (h : Tabs w) (o : Obj) : Tabs (w.alloc o) := h.below ((Below.refl w.heap.size w).alloc (Nat.le_refl _) o) h.three
theorem word_cases (s : ByteArray) : (∃ p ∈ txtTab, s = p.1) ∨ (txtOf s = ⟨#[]⟩ ∧ ksOf s = [] ∧ isWord s = false) := by
 by_cases h : ∃ p ∈ txtTab, s = p.1
 · exact .inl h
 · right
   have h' : ∀ p ∈ txtTab, ¬ s = p.1 := fun p hp e => h ⟨p, hp, e⟩
   have hk : ∀ p ∈ keyTab, ¬ p.1 = s := by
    have hmap : keyTab.map (·.1) = txtTab.map (·.1) := by decide
    intro p hp e
    have : p.1 ∈ txtTab.map (·.1) := by rw [← hmap]; exact List.mem_map_of_mem hp
    obtain ⟨q, hq, hqe⟩ := List.mem_map.1 this
    exact h' q hq (by rw [hqe]; exact e.symm)
   refine ⟨txtOf_none h', ?_, ?_⟩
   · have : keyTab.find? (fun p => decide (p.1 = s)) = none := by
      rw [List.find?_eq_none]
      intro p hp
      simpa using hk p hp
     unfold ksOf
     rw [this]
   · unfold isWord
     rw [List.any_eq_false]
     intro p hp
     simpa using hk p hp
def digT (n : Nat) : ByteArray := ⟨#[UInt8.ofNat (48 + n)]⟩
set_option maxRecDepth 100000 in
theorem fields_txt (s : ByteArray) : (Lib.fields (txtOf s).data.toList).map (fun l => (⟨l.toArray⟩ : ByteArray)) = (ksOf s).flatMap fun p => [p.1, digT p.2] := by
 rcases word_cases s with ⟨p, hp, rfl⟩ | ⟨h1, h2, _⟩
 · simp only [txtTab, List.mem_cons, List.not_mem_nil, or_false] at hp
   rcases hp with rfl | rfl | rfl | rfl | rfl | rfl | rfl | rfl | rfl | rfl | rfl | rfl | rfl | rfl
   all_goals kernel_rfl
 · rw [h1, h2]; rfl
set_option maxRecDepth 100000 in
theorem txt_ok (s : ByteArray) : (txtOf s).size ≤ 200 ∧ (∀ (j : Nat) b, (txtOf s).data.toList[j]? = some b → b.toNat < 128) ∧ (ksOf s).length ≤ 20 ∧ (∀ p ∈ ksOf s, p.2 ≤ 2) := by
 suffices h : decide ((txtOf s).size ≤ 200) = true ∧ ((txtOf s).data.toList.all fun b => decide (b.toNat < 128)) = true ∧ decide ((ksOf s).length ≤ 20) = true ∧ ((ksOf s).all fun p => decide (p.2 ≤ 2)) = true by
  obtain ⟨h1, h2, h3, h4⟩ := h
  rw [List.all_eq_true] at h2 h4
  exact ⟨of_decide_eq_true h1, fun j b hb => of_decide_eq_true (h2 b (List.mem_of_getElem? hb)), of_decide_eq_true h3, fun p hp => of_decide_eq_true (h4 p hp)⟩
 rcases word_cases s with ⟨p, hp, rfl⟩ | ⟨h1, h2, _⟩
 · simp only [txtTab, List.mem_cons, List.not_mem_nil, or_false] at hp
   rcases hp with rfl | rfl | rfl | rfl | rfl | rfl | rfl | rfl | rfl | rfl | rfl | rfl | rfl | rfl
   all_goals exact ⟨by kernel_rfl, by kernel_rfl, by kernel_rfl, by kernel_rfl⟩
 · rw [h1, h2]; exact ⟨rfl, rfl, rfl, rfl⟩
set_option maxRecDepth 100000 in
theorem txt_word (s : ByteArray) : ((txtOf s).toList == []) = !isWord s := by
 rcases word_cases s with ⟨p, hp, rfl⟩ | ⟨h1, _, h3⟩
 · simp only [txtTab, List.mem_cons, List.not_mem_nil, or_false] at hp
   rcases hp with rfl | rfl | rfl | rfl | rfl | rfl | rfl | rfl | rfl | rfl | rfl | rfl | rfl | rfl
   all_goals (rw [ByteArray.toList_eq]; kernel_rfl)
 · rw [h1, h3, ByteArray.toList_eq]; rfl
theorem fields_at {w : World} {l : List (ByteArray × Nat)} {b : Nat} {e : TypeId} {fs : List (List UInt8)} (hf : fs.map (fun l => (⟨l.toArray⟩ : ByteArray)) = l.flatMap fun p => [p.1, digT p.2]) (hb : b = w.heap.size) :
  fs.length = l.length * 2 ∧ ∀ k p, l[k]? = some p → (w.alloc (.cells (fs.map fun l => Value.string ⟨l.toArray⟩).toArray e)).cell? ⟨b, k * 2, none⟩ = some (.string p.1) ∧ (w.alloc (.cells (fs.map fun l => Value.string ⟨l.toArray⟩).toArray e)).cell? ⟨b, k * 2 + 1, none⟩ = some (.string (digT p.2)) := by
 subst hb
 have hl : fs.length = l.length * 2 := by
  have := congrArg List.length hf
  rw [List.length_map] at this
  rw [this]
  clear this hf
  induction l with
  | nil => rfl
  | cons a l ih => rw [List.flatMap_cons, List.length_append, ih]; simp; omega
 have he : fs.map (fun l => Value.string ⟨l.toArray⟩) = l.flatMap fun p => [Value.string p.1, Value.string (digT p.2)] := by
  have h1 : fs.map (fun l => Value.string ⟨l.toArray⟩) = (fs.map (fun l => (⟨l.toArray⟩ : ByteArray))).map Value.string := by rw [List.map_map]; rfl
  rw [h1, hf, List.map_flatMap]
  rfl
 have hc : ∀ k p j u, l[k]? = some p → [Value.string p.1, Value.string (digT p.2)][j]? = some u → (w.alloc (.cells (fs.map fun l => Value.string ⟨l.toArray⟩).toArray e)).cell? ⟨w.heap.size, k * 2 + j, none⟩ = some u := fun k p j u hk hu => by
  rw [World.cell?_alloc_new, he, List.getElem?_toArray]
  exact flat_get (fun p : ByteArray × Nat => [Value.string p.1, Value.string (digT p.2)]) 2 (fun _ => rfl) l k j p u hk hu
 exact ⟨hl, fun k p hk => ⟨hc k p 0 _ hk rfl, hc k p 1 _ hk rfl⟩⟩
theorem arL_step {l : List (ByteArray × Nat)} {k : Nat} {p : ByteArray × Nat} {key : ByteArray} (hk : l[k]? = some p) : arL (l.drop k) key = if p.1 = key then (p.2 : Int) else arL (l.drop (k + 1)) key := by
 obtain ⟨hlt, rfl⟩ := List.getElem?_eq_some_iff.1 hk
 rw [List.drop_eq_getElem_cons hlt]
 unfold arL
 rw [List.find?_cons]
 by_cases h : l[k].1 = key
 · simp [h]
 · simp [h]
theorem arR_bd (word key : ByteArray) : -1 ≤ arR word key ∧ arR word key ≤ 2 := by
 unfold arR arL
 split
 · rename_i p hp
   have := (txt_ok word).2.2.2 p (List.mem_of_find?_eq_some hp)
   omega
 · omega
set_option maxRecDepth 100000 in
set_option maxHeartbeats 1000000 in
theorem arity_any (word key : ByteArray) (w : World) (ht : Tabs w) : Calls Tryz.prog 157 #[.string word, .string key] w fun e w' => e = .returned (.int .i64 (arR word key)) ∧ Below w.heap.size w w' := by
 have h3 := ht.three
 obtain ⟨hs, hasc, hkl, hk2⟩ := txt_ok word
 have HT := hQ0 ht
 have hft := fields_txt word
 obtain ⟨R, hR⟩ : ∃ R, R = arR word key := ⟨_, rfl⟩
 rw [← hR]
 have HR : Hid (arL ((ksOf word).drop 0) key = R) := hQ0 (by rw [hR]; rfl)
 have HA := hQ0 hasc
 have HK2 := hQ0 hk2
 have HF := hQ0 hft
 clear hR ht hasc hft hk2
 obtain ⟨l, hl⟩ : ∃ l, l = ksOf word := ⟨_, rfl⟩
 obtain ⟨t, htx⟩ : ∃ t, t = txtOf word := ⟨_, rfl⟩
 have K := fun W => keys_any word W
 rw [← htx] at hs HA HF K
 rw [← hl] at hkl HK2 HF HR
 clear hl htx
 go_enter Tryz.func157, Tryz.ntmps157; (try simp only [List.append_eq, List.cons_append, List.nil_append])
 go_wp2_with (first | (go_at_call 155; refine (K _).mono ?_; rintro e w1 ⟨rfl, hb_w1⟩) | (go_at_call 185; refine (Tryz.strings_Fields_laid _ _ (by omega) HA.out (HT.out.below hb_w1 h3).sp).mono ?_; rintro e w2 ⟨rfl, rfl⟩))
 have hz1 := hb_w1.size
 have ha := fun (W : World) => fields_at (w := W) (e := 9) HF.out rfl
 obtain ⟨hfl, hca⟩ := ha w1
 have HC := hQ0 hca
 have HB := hQ0 hb_w1
 clear ha hca HF hb_w1
 rw [hfl]
 clear hfl
 go_loop [6] (fun t => ∃ k : Nat, k ≤ l.length ∧ t = .int .i64 ((k * 2 : Nat) : Int) ∧ Hid (arL (l.drop k) key = R)) (fun t => 2 * l.length - (intOf t).toNat)
 case atStart => exact ⟨0, by omega, rfl, HR⟩
 case round =>
  obtain ⟨k, hk, rfl, HJ⟩ := hrel
  by_cases hlt : k < l.length
  · obtain ⟨p, hp⟩ : ∃ p, l[k]? = some p := ⟨l[k], by simp⟩
    obtain ⟨c0, c1⟩ := HC.out k p hp
    have h2 := HK2.out p (List.mem_of_getElem? hp)
    have hst := arL_step (key := key) hp
    have i1 : ((k * 2 : Nat) : Int) + 1 < ((l.length * 2 : Nat) : Int) := by omega
    by_cases he : p.1 = key
    · rw [if_pos he] at hst
      have b1 : (p.1.toList == key.toList) = true := by rw [he]; exact beq_self_eq_true _
      obtain rfl : R = (p.2 : Int) := by rw [← HJ.out]; exact hst
      obtain ⟨p1, n⟩ := p
      simp only at h2 b1 c0 c1 ⊢
      clear hst he hp HJ HC
      rcases (by omega : n = 0 ∨ n = 1 ∨ n = 2) with rfl | rfl | rfl
      all_goals
       simp only [digT] at c1
       go_wp2_with fail
       go_ret
       exact ⟨rfl, HB.out.alloc hz1 _⟩
    · rw [if_neg he] at hst
      have b1 : (p.1.toList == key.toList) = false := by
       rw [beq_eq_false_iff_ne]; intro e
       rw [ByteArray.toList_eq, ByteArray.toList_eq] at e
       exact he (ByteArray.ext (Array.ext' e))
      have hnx := hQ0 (hst.symm.trans HJ.out)
      clear hst he
      go_wp2_with fail
      go_round
      case rel => exact ⟨k + 1, by omega, by go_num, hnx⟩
      case measure => simp [intOf]; omega
  · obtain rfl : k = l.length := by omega
    have i1 : ¬ ((l.length * 2 : Nat) : Int) + 1 < ((l.length * 2 : Nat) : Int) := by omega
    obtain rfl : R = -1 := by rw [← HJ.out, List.drop_length]; rfl
    go_wp2_with fail
    go_ret
    exact ⟨rfl, HB.out.alloc hz1 _⟩
structure RdAt (w : World) (rb N : Nat) (A : Option Addr) (l : List WV) (e c : Nat) : Prop where
  hw : w.cell? ⟨rb, 0, none⟩ = some (.slice A l.length c)
  he : w.cell? ⟨rb, 1, none⟩ = some (.int .i64 e)
  fz : ∀ o, w.frozen? ⟨rb, o, none⟩ = false
  lt : rb < w.heap.size
  nle : N ≤ rb
  cap : l.length ≤ c
  ws : WvAt w N A l
theorem RdAt.below {w w' : World} {rb N B : Nat} {A : Option Addr} {l : List WV} {e c : Nat} (h : RdAt w rb N A l e c) (hb : Below B w w') (hB : w.heap.size ≤ B) : RdAt w' rb N A l e c :=
 have h1 : rb < B := Nat.lt_of_lt_of_le h.lt hB
 ⟨(hb.cell (p := ⟨rb, 0, none⟩) h1).trans h.hw, (hb.cell (p := ⟨rb, 1, none⟩) h1).trans h.he, fun o => (hb.frozen (p := ⟨rb, o, none⟩) h1).trans (h.fz o), Nat.lt_of_lt_of_le h.lt hb.size, h.nle, h.cap, h.ws.below hb (by have := h.nle; omega)⟩
theorem RdAt.set {w : World} {rb N : Nat} {A : Option Addr} {l : List WV} {e c : Nat} (h : RdAt w rb N A l e c) {p : Addr} (u : Value) (hp : rb < p.block) : RdAt (w.setCell p u) rb N A l e c := by
 have hk : ∀ b, b ≤ rb → (w.setCell p u).heap[b]? = w.heap[b]? := fun b hb => Below.heap_setCell _ _ _ _ (by omega)
 have hn := h.nle
 refine ⟨(World.cell?_of_block (hk rb (Nat.le_refl _))).trans h.hw, (World.cell?_of_block (hk rb (Nat.le_refl _))).trans h.he, fun o => (World.frozen?_of_block (hk rb (Nat.le_refl _))).trans (h.fz o), by simpa using h.lt, h.nle, h.cap, fun k x hx => ?_⟩
 obtain ⟨g, o, hA, hg, hc⟩ := h.ws k x hx
 exact ⟨g, o, hA, hg, fun j u hu => (World.cell?_of_block (hk g (by omega))).trans (hc j u hu)⟩
theorem RdAt.grown {w w' : World} {rb N : Nat} {A : Option Addr} {l : List WV} {e c : Nat} {row : Option Nat} (h : RdAt w rb N A l e c) (hg : w.grownBy w' row) (hr : ∀ k, row = some k → rb < k) : RdAt w' rb N A l e c := by
 have hl := h.lt
 have hk : ∀ b, b ≤ rb → w'.heap[b]? = w.heap[b]? := fun b hb => hg.block b (by omega) (fun e => by have := hr b e.symm; omega)
 have hn := h.nle
 refine ⟨(World.cell?_of_block (hk rb (Nat.le_refl _))).trans h.hw, (World.cell?_of_block (hk rb (Nat.le_refl _))).trans h.he, fun o => (World.frozen?_of_block (hk rb (Nat.le_refl _))).trans (h.fz o), Nat.lt_of_lt_of_le h.lt hg.size, h.nle, h.cap, fun k x hx => ?_⟩
 obtain ⟨g, o, hA, hg', hc⟩ := h.ws k x hx
 exact ⟨g, o, hA, hg', fun j u hu => (World.cell?_of_block (hk g (by omega))).trans (hc j u hu)⟩
theorem RdAt.alloc {w : World} {rb N : Nat} {A : Option Addr} {l : List WV} {e c : Nat} (h : RdAt w rb N A l e c) (o : Obj) : RdAt (w.alloc o) rb N A l e c := h.below ((Below.refl w.heap.size w).alloc (Nat.le_refl _) o) (Nat.le_refl _)
def flt (e : Int) (a : Nat) : List PanicEntry := [{ v := .iface 155 (.agg #[.int .i64 e, .int .i64 a]), recovered := false }]
def vOfW (x : WV) : Value := .agg #[.int .i64 x.kind, .string x.text, .int .i64 x.num, .int .i64 x.at_]
theorem rdat_any (w : World) (rb N e c : Nat) (A : Option Addr) (l : List WV) (h : RdAt w rb N A l e c) : Calls Tryz.prog 92 #[.pointer (some ⟨rb, 0, none⟩)] w fun ε w' => ε = .returned (.int .i64 (atR l e : Nat)) ∧ w = w' := by
 obtain ⟨hw, he, fz, lt, nle, cap, ws⟩ := h
 cases l with
 | nil =>
  clear ws cap
  simp only [List.length_nil] at hw
  go_enter Tryz.func92, Tryz.ntmps92; (try simp only [List.append_eq, List.cons_append, List.nil_append])
  go_wp2_with fail
  go_ret
  exact ⟨rfl, rfl⟩
 | cons x l =>
  obtain ⟨g, o, rfl⟩ := ws.form
  obtain ⟨hg, c0, c1, c2, c3⟩ := ws.head
  simp only [List.length_cons] at hw cap
  have i1 : ¬ ((l.length + 1 : Nat) : Int) = 0 := by omega
  have i2 : (0 : Int) < ((l.length + 1 : Nat) : Int) := by omega
  clear ws
  go_enter Tryz.func92, Tryz.ntmps92; (try simp only [List.append_eq, List.cons_append, List.nil_append])
  go_wp2_with fail
  go_ret
  exact ⟨rfl, rfl⟩
theorem is_any (w : World) (rb N e c : Nat) (A : Option Addr) (l : List WV) (h : RdAt w rb N A l e c) (k : Int) : Calls Tryz.prog 156 #[.pointer (some ⟨rb, 0, none⟩), .int .i64 k] w fun ε w' => ε = .returned (.bool (isK l k)) ∧ w = w' := by
 obtain ⟨hw, he, fz, lt, nle, cap, ws⟩ := h
 cases l with
 | nil =>
  clear ws cap
  simp only [List.length_nil] at hw
  go_enter Tryz.func156, Tryz.ntmps156; (try simp only [List.append_eq, List.cons_append, List.nil_append])
  go_wp2_with fail
  go_ret
  exact ⟨rfl, rfl⟩
 | cons x l =>
  obtain ⟨g, o, rfl⟩ := ws.form
  obtain ⟨hg, c0, c1, c2, c3⟩ := ws.head
  simp only [List.length_cons] at hw cap
  have i1 : (0 : Int) < ((l.length + 1 : Nat) : Int) := by omega
  clear ws
  go_enter Tryz.func156, Tryz.ntmps156; (try simp only [List.append_eq, List.cons_append, List.nil_append])
  go_wp2_with fail
  go_ret
  refine ⟨?_, rfl⟩
  simp [isK, Bool.beq_eq_decide_eq]
theorem take_bad (w : World) (rb N e c : Nat) (A : Option Addr) (l : List WV) (h : RdAt w rb N A l e c) (k : Int) (hk : isK l k = false) : Calls Tryz.prog 154 #[.pointer (some ⟨rb, 0, none⟩), .int .i64 k] w fun ε w' => ε = .panicked (flt 4 (atR l e)) ∧ Below w.heap.size w w' := by
 have h1 := h.alloc (.cells #[.int .i64 0, .string ⟨#[]⟩, .int .i64 0, .int .i64 0] 239)
 go_enter Tryz.func154, Tryz.ntmps154; (try simp only [List.append_eq, List.cons_append, List.nil_append])
 go_wp2_with (first | (go_at_call 156; refine (is_any _ _ _ _ _ _ _ h1 _).mono ?_; rintro e w1 ⟨rfl, rfl⟩) | (go_at_call 92; refine (rdat_any _ _ _ _ _ _ _ h1).mono ?_; rintro e w1 ⟨rfl, rfl⟩))
 exact ⟨rfl, rfl, by ((with_reducible (repeat (first | exact bR _ _ | apply bS | apply bA | apply bD | refine bT ?_ (by assumption) ?_ | refine bO (by assumption) ?_ ?_))) <;> (first | omega | (simp <;> omega)))⟩
theorem take_ok (w : World) (rb N e c : Nat) (A : Option Addr) (x : WV) (l : List WV) (h : RdAt w rb N A (x :: l) e c) (k : Int) (hk : x.kind = k) : Calls Tryz.prog 154 #[.pointer (some ⟨rb, 0, none⟩), .int .i64 k] w fun ε w' => ε = .returned (vOfW x) ∧ But rb w w' ∧ ∃ A' c', RdAt w' rb N A' l e c' := by
 have h1 := h.alloc (.cells #[.int .i64 0, .string ⟨#[]⟩, .int .i64 0, .int .i64 0] 239)
 have hk' : isK (x :: l) k = true := by simp [isK, hk]
 obtain ⟨hw, he, fz, lt, nle, cap, ws⟩ := h
 obtain ⟨g, o, rfl⟩ := ws.form
 obtain ⟨hg, c0, c1, c2, c3⟩ := ws.head
 simp only [List.length_cons] at hw cap
 have i1 : (0 : Int) < ((l.length + 1 : Nat) : Int) := by omega
 have l1 : g < w.heap.size := by omega
 go_enter Tryz.func154, Tryz.ntmps154; (try simp only [List.append_eq, List.cons_append, List.nil_append])
 go_wp2_with (first | (go_at_call 156; refine (is_any _ _ _ _ _ _ _ h1 _).mono ?_; rintro e w1 ⟨rfl, rfl⟩) | (go_at_call 92; refine (rdat_any _ _ _ _ _ _ _ h1).mono ?_; rintro e w1 ⟨rfl, rfl⟩))
 · obtain rfl : l = [] := by
    cases l with
    | nil => rfl
    | cons y l => simp only [List.length_cons] at cap; omega
   have hbut := ((((But.refl rb w).set (p := ⟨rb, 0, none⟩) (Value.slice (some ⟨g, o, none⟩) ([] : List WV).length 0) (.inl rfl)).alloc (.cells #[.int .i64 k, .string x.text, .int .i64 x.num, .int .i64 x.at_] 239)).alloc (.cells #[.int .i64 k, .string x.text, .int .i64 x.num, .int .i64 x.at_] 239))
   refine bodyPost_ret (v := .agg #[.int .i64 k, .string x.text, .int .i64 x.num, .int .i64 x.at_]) (by simp only [results, Tryz.results154]; go_simp) rfl ⟨?_, ?_⟩
   · rw [← hk]; rfl
   refine ⟨hbut, some ⟨g, o, none⟩, 0, ?_, ?_, ?_, ?_, nle, Nat.le_refl _, ?_⟩
   · go_simp
   · go_simp; try exact he
   · intro o; go_simp; try exact fz o
   · simp; omega
   · exact fun k y hy => by simp at hy
 · have hbut := ((((But.refl rb w).set (p := ⟨rb, 0, none⟩) (Value.slice (some ⟨g, o + 4, none⟩) l.length (c - 1)) (.inl rfl)).alloc (.cells #[.int .i64 k, .string x.text, .int .i64 x.num, .int .i64 x.at_] 239)).alloc (.cells #[.int .i64 k, .string x.text, .int .i64 x.num, .int .i64 x.at_] 239))
   refine bodyPost_ret (v := .agg #[.int .i64 k, .string x.text, .int .i64 x.num, .int .i64 x.at_]) (by simp only [results, Tryz.results154]; go_simp) rfl ⟨?_, ?_⟩
   · rw [← hk]; rfl
   refine ⟨hbut, some ⟨g, o + 4, none⟩, c - 1, ?_, ?_, ?_, ?_, nle, by omega, ?_⟩
   · go_simp
   · go_simp; try exact he
   · intro o; go_simp; try exact fz o
   · simp; omega
   · exact WvAt.tail (ws.but hbut (by omega) nle)
def CIOut (l : List Int) (w : World) (e : Ending) (w' : World) : Prop := Below w.heap.size w w' ∧ ∃ A c, e = .returned (.slice A l.length c) ∧ w'.ownsRow w.heap.size 3 1 (.slice A l.length c) l.length (l.map (Value.int .i64))
theorem clonei_any (l : List Int) (A : Option Addr) (c : Nat) (w : World) (hl : l.length ≤ 1000) (hV : IAt w A l) :
  Calls Tryz.prog 125 #[.slice A l.length c] w (CIOut l w) := by
 rcases A with _ | a
 · have hnil : l = [] := by
    cases l with
    | nil => rfl
    | cons x l => obtain ⟨g, o, hA, _⟩ := hV 0 x rfl; cases hA
   subst hnil
   exact (Tryz.slices_Clone_int_nil 0 c w).mono fun e w' ⟨he, hw⟩ => by subst hw; exact ⟨Below.refl _ _, none, 0, he, World.ownsRow_nil _ _ _ _⟩
 · rcases Nat.eq_zero_or_pos l.length with h0 | h0
   · obtain rfl := List.length_eq_zero_iff.1 h0
     refine (Tryz.slices_Clone_int_zero a c w).mono fun e w' ⟨v', he, ho, _, hb⟩ => ?_
     obtain ⟨A', c', rfl⟩ := own_sl ho
     exact ⟨hb, A', c', he, ho⟩
   · obtain ⟨x0, hx0⟩ : ∃ x, l[0]? = some x := ⟨l[0], by simp⟩
     obtain ⟨g, o, hA, _, _⟩ := hV 0 x0 hx0
     obtain rfl : a = ⟨g, o, none⟩ := Option.some.inj hA
     refine (Tryz.slices_Clone_int g o l.length c l w (Nat.le_refl _) (by omega) (fun j hj => ?_)).mono fun e w' ⟨v', he, ho, _, hb⟩ => ?_
     · obtain ⟨x, hx⟩ : ∃ x, l[j]? = some x := ⟨l[j], by simp⟩
       obtain ⟨g', o', hA', _, h1⟩ := hV j x hx
       have e := Option.some.inj hA'
       simp only [Addr.mk.injEq, and_true] at e
       obtain ⟨rfl, rfl⟩ := e
       rw [h1, List.getD_eq_getElem?_getD, hx]; rfl
     · rw [List.take_length] at ho
       obtain ⟨A', c', rfl⟩ := own_sl ho
       exact ⟨hb, A', c', he, ho⟩
def vOfX (x : IV) (B : Option Addr) (d : Nat) : Value := .agg #[.string x.word, .string x.name, .slice B x.keys.length d, .int .i64 x.at_]
def vOfK (x : KV) (B : Option Addr) (d : Nat) : Value := .agg #[.string x.key, .slice B x.vals.length d, .int .i64 x.at_]
def GetOut (R : Option (List Int)) (w : World) (e : Ending) (w' : World) : Prop := Below w.heap.size w w' ∧ match R with
  | none => e = .returned (.tuple #[.slice none 0 0, .bool false])
  | some vs => ∃ A c, e = .returned (.tuple #[.slice A vs.length c, .bool true]) ∧ OwnI w' w.heap.size A c vs
theorem getR_step {l : List KV} {k : Nat} {p : KV} {key : ByteArray} (hk : l[k]? = some p) : getR (l.drop k) key = if p.key = key then some p.vals else getR (l.drop (k + 1)) key := by
 obtain ⟨hlt, rfl⟩ := List.getElem?_eq_some_iff.1 hk
 rw [List.drop_eq_getElem_cons hlt]
 unfold getR
 rw [List.find?_cons]
 by_cases h : l[k].key = key
 · simp [h]
 · simp [h]
set_option maxHeartbeats 1000000 in
theorem get_any (x : IV) (B : Option Addr) (d : Nat) (key : ByteArray) (w : World) (hK : KsAt w B x.keys) (hl : x.keys.length ≤ 1000000) (hv : ∀ k ∈ x.keys, k.vals.length ≤ 1000) :
  Calls Tryz.prog 103 #[vOfX x B d, .string key] w (GetOut (getR x.keys key) w) := by
 obtain ⟨ks, hks⟩ : ∃ ks, ks = x.keys := ⟨_, rfl⟩
 obtain ⟨R, hR⟩ : ∃ R, R = getR ks key := ⟨_, rfl⟩
 unfold vOfX
 rw [← hks] at hK hl hv ⊢
 rw [← hR]
 have HR : Hid (getR (ks.drop 0) key = R) := hQ0 (by rw [hR]; rfl)
 have HK := hQ0 hK
 have HV := hQ0 hv
 clear hR hks hK hv
 go_enter Tryz.func103, Tryz.ntmps103; (try simp only [List.append_eq, List.cons_append, List.nil_append])
 go_wp2_with fail
 go_loopw [11] (fun t wr => ∃ k : Nat, k ≤ ks.length ∧ t = .int .i64 k ∧ Below w.heap.size w wr ∧ Hid (getR (ks.drop k) key = R)) (fun t _ => ks.length - (intOf t).toNat)
 case atStart => exact ⟨0, by omega, rfl, (by ((with_reducible (repeat (first | exact bR _ _ | apply bS | apply bA | apply bD | refine bT ?_ (by assumption) ?_ | refine bO (by assumption) ?_ ?_))) <;> (first | omega | (simp <;> omega)))), HR⟩
 case round =>
  obtain ⟨k, hk, rfl, hb_wr, HJ⟩ := hrel
  have hz_wr := hb_wr.size
  by_cases hlt : k < ks.length
  · obtain ⟨p, hp⟩ : ∃ p, ks[k]? = some p := ⟨ks[k], by simp⟩
    obtain ⟨g, o, C, q, rfl, hg, ⟨c0, c1, c2⟩, hI⟩ := (HK.out.below hb_wr (Nat.le_refl _)) k p hp
    have hst := getR_step (key := key) hp
    have HI := hQ0 hI
    have HB := hQ0 hb_wr
    have i1 : (k : Int) < (ks.length : Int) := by omega
    have hvl := HV.out p (List.mem_of_getElem? hp)
    clear hI hb_wr
    by_cases he : p.key = key
    · rw [if_pos he] at hst
      have b1 : (p.key.toList == key.toList) = true := by rw [he]; exact beq_self_eq_true _
      obtain rfl : R = some p.vals := by rw [← HJ.out]; exact hst
      clear hst he HJ HR
      have K := fun (W : World) (h : IAt W C p.vals) => clonei_any p.vals C q W hvl h
      go_wp2_with (go_at_call 125; refine (K _ (HI.out.below (by ((with_reducible (repeat (first | exact bR _ _ | apply bS | apply bA | apply bD | refine bT ?_ (by assumption) ?_ | refine bO (by assumption) ?_ ?_))) <;> (first | omega | (simp <;> omega)))) (Nat.le_refl _))).mono ?_; rintro e w2 ⟨hb_w2, A, c, rfl, ho⟩)
      go_ret2
      have hs2 : wr.heap.size ≤ wr.heap.size + 1 := by omega
      refine ⟨(HB.out.alloc hz_wr _).trans (hb_w2.mono (by simp; omega)), A, c, rfl, OwnI.weaker ho (by simp; omega)⟩
    · rw [if_neg he] at hst
      have b1 : (p.key.toList == key.toList) = false := txt_neT he
      have hnx := hQ0 (hst.symm.trans HJ.out)
      clear hst he HR HJ
      go_wp2_with fail
      go_roundw
      case rel => exact ⟨k + 1, by omega, by go_num, HB.out.alloc hz_wr _, hnx⟩
      case measure => simp [intOf]; omega
  · obtain rfl : k = ks.length := by omega
    obtain rfl : R = none := by rw [← HJ.out, List.drop_length]; rfl
    go_wp2_with fail
    go_ret2
    exact ⟨hb_wr, rfl⟩
structure VAt (w : World) (vb : Nat) (x : IV) (B : Option Addr) (d : Nat) (m : Bool) : Prop where
  bx : BoxAt w vb [.string x.word, .string x.name, .slice B x.keys.length d, .int .i64 x.at_, .bool m]
  ks : ∃ w0 : World, KsAt w0 B x.keys ∧ Below w0.heap.size w0 w ∧ w0.heap.size ≤ vb
theorem VAt.kat {w : World} {vb : Nat} {x : IV} {B : Option Addr} {d : Nat} {m : Bool} (h : VAt w vb x B d m) : KsAt w B x.keys := by
 obtain ⟨w0, h1, h2, _⟩ := h.ks
 exact h1.below h2 (Nat.le_refl _)
theorem VAt.below {w w' : World} {vb : Nat} {x : IV} {B : Option Addr} {d : Nat} {m : Bool} (h : VAt w vb x B d m) (hb : Below w.heap.size w w') : VAt w' vb x B d m := ⟨h.bx.below hb h.bx.lt, by
  obtain ⟨w0, h1, h2, h3⟩ := h.ks
  exact ⟨w0, h1, h2.trans (hb.mono h2.size), h3⟩⟩
def IvOk (x : IV) : Prop := x.keys.length ≤ 1000000 ∧ ∀ k ∈ x.keys, k.vals.length ≤ 1000
def orR (x : IV) (key : ByteArray) (other : Int) : Int := match getR x.keys key with
  | some vs => vs.headD 0
  | none => other
def listR (x : IV) (key : ByteArray) (n : Nat) : List Int := (getR x.keys key).getD (List.replicate n 0)
def missR (x : IV) (key : ByteArray) (m : Bool) : Bool := m || (getR x.keys key).isNone
set_option maxRecDepth 100000 in
set_option maxHeartbeats 1000000 in
theorem or_any (w : World) (vb : Nat) (x : IV) (B : Option Addr) (d : Nat) (m : Bool) (key : ByteArray) (other : Int) (h : VAt w vb x B d m) (ho : IvOk x) (hn : ∀ vs, getR x.keys key = some vs → vs ≠ []) :
  Calls Tryz.prog 96 #[.pointer (some ⟨vb, 0, none⟩), .string key, .int .i64 other] w fun e w' => e = .returned (.int .i64 (orR x key other)) ∧ Below w.heap.size w w' := by
 have v0 := h.bx.c 0 (.string x.word) rfl
 have v1 := h.bx.c 1 (.string x.name) rfl
 have v2 := h.bx.c 2 (.slice B x.keys.length d) rfl
 have v3 := h.bx.c 3 (.int .i64 x.at_) rfl
 have K := get_any x B d key w h.kat ho.1 ho.2
 unfold vOfX at K
 unfold orR
 cases hG : getR x.keys key with
 | none =>
  rw [hG] at K
  have HK := hQ0 K
  clear hG K hn
  go_enter Tryz.func96, Tryz.ntmps96; (try simp only [List.append_eq, List.cons_append, List.nil_append])
  go_wp2_with (go_at_call 103; refine HK.out.mono ?_; rintro e w1 ⟨hb1, rfl⟩)
  go_ret
  exact ⟨rfl, hb1⟩
 | some vs =>
  obtain ⟨a, vs, rfl⟩ : ∃ a l, vs = a :: l := by cases vs with
   | nil => exact absurd rfl (hn _ hG)
   | cons a l => exact ⟨a, l, rfl⟩
  rw [hG] at K
  have HK := hQ0 K
  clear hG K hn
  go_enter Tryz.func96, Tryz.ntmps96; (try simp only [List.append_eq, List.cons_append, List.nil_append])
  go_wp2_with (go_at_call 103; refine HK.out.mono ?_; rintro e w1 ⟨hb1, A, c, rfl, hown⟩; (obtain ⟨g, o, rfl, hg, cA⟩ := (OwnI.iat hown) 0 a rfl); simp only [Nat.add_zero] at cA; have hlen : (0 : Int) < ((a :: vs).length : Int) := (by have h_ : 0 < (a :: vs).length := Nat.succ_pos _; omega))
  go_ret
  exact ⟨rfl, hb1⟩
theorem BoxAt.set {w : World} {b j : Nat} {cs : List Value} {old : Value} (u : Value) (h : BoxAt w b cs) (hj : cs[j]? = some old) : BoxAt (w.setCell ⟨b, j, none⟩ u) b (cs.set j u) := by
 refine ⟨fun k v hk => ?_, fun o => ?_, by simpa using h.lt⟩
 · by_cases e : j = k
   · subst e
     have hlt := (List.getElem?_eq_some_iff.1 hj).1
     rw [List.getElem?_set_self hlt] at hk
     cases hk
     exact World.cell?_setCell_same w _ u (h.c j old hj)
   · rw [List.getElem?_set_ne e] at hk
     exact (World.cell?_setCell_other w _ _ u (fun q => e (by simp only [Addr.mk.injEq] at q; exact q.2.1))).trans (h.c k v hk)
 · have := h.fz o
   go_simp
def ListOut (vs : List Int) (x : IV) (B : Option Addr) (d vb : Nat) (m : Bool) (w : World) (e : Ending) (w' : World) : Prop := ∃ A c, e = .returned (.slice A vs.length c) ∧ IAt w' A vs ∧ But vb w w' ∧ VAt w' vb x B d m
theorem iat_zeros (w : World) (n : Nat) (e : TypeId) : IAt (w.alloc (.cells ((List.replicate n (Value.int .i64 0))).toArray e)) (some ⟨w.heap.size, 0, none⟩) (List.replicate n 0) := fun k x hk => by
 obtain ⟨h1, h2⟩ := List.getElem?_eq_some_iff.1 hk
 rw [List.getElem_replicate] at h2
 subst h2
 rw [List.length_replicate] at h1
 refine ⟨_, 0, rfl, by simp, ?_⟩
 rw [World.cell?_alloc_new]
 simp [h1]
theorem make_ints (n : Nat) (hn : n ≤ 1000) (w : World) : (Instr.makeSlice 24 (.int .i64 (n : Int)) (.int .i64 (n : Int))).run Tryz.prog w = .ok (.slice (some ⟨w.heap.size, 0, none⟩) n n) (w.alloc (.cells (madeCells #[.int .i64 0] n) 3)) := by
 have hI := intInfo
 cases hi : Tryz.prog.info? 3 with
 | none => rw [hi] at hI; cases hI
 | some i =>
  rw [hi] at hI
  simp only [Option.map_some, Option.some.injEq, Prod.mk.injEq] at hI
  obtain ⟨hz, hs, hb⟩ := hI
  have hr := run_make (P := Tryz.prog) w 24 3 i _ Tryz.underlying24 hi hz .i64 .i64 n n (by omega) (Int.le_refl _) (by rw [hb]; omega) (by omega)
  simp only [Int.toNat_natCast, hs, Nat.mul_one] at hr
  exact hr
theorem make_1 (w : World) : (Instr.makeSlice 24 (.int .i64 1) (.int .i64 1)).run Tryz.prog w = .ok (.slice (some ⟨w.heap.size, 0, none⟩) 1 1) (w.alloc (.cells #[.int .i64 0] 3)) := by
 have e : madeCells #[Value.int .i64 0] 1 = #[.int .i64 0] := by first | kernel_rfl | rfl
 have h := make_ints 1 (by omega) w
 rw [e] at h
 exact h
theorem make_2 (w : World) : (Instr.makeSlice 24 (.int .i64 2) (.int .i64 2)).run Tryz.prog w = .ok (.slice (some ⟨w.heap.size, 0, none⟩) 2 2) (w.alloc (.cells #[.int .i64 0, .int .i64 0] 3)) := by
 have e : madeCells #[Value.int .i64 0] 2 = #[.int .i64 0, .int .i64 0] := by first | kernel_rfl | rfl
 have h := make_ints 2 (by omega) w
 rw [e] at h
 exact h
set_option maxRecDepth 100000 in
set_option maxHeartbeats 1000000 in
theorem list_any1 (w : World) (vb : Nat) (x : IV) (B : Option Addr) (d : Nat) (m : Bool) (key : ByteArray) (h : VAt w vb x B d m) (ho : IvOk x) :
  Calls Tryz.prog 102 #[.pointer (some ⟨vb, 0, none⟩), .string key, .int .i64 1] w (ListOut (listR x key 1) x B d vb (missR x key m) w) := by
 have v0 := h.bx.c 0 (.string x.word) rfl
 have v1 := h.bx.c 1 (.string x.name) rfl
 have v2 := h.bx.c 2 (.slice B x.keys.length d) rfl
 have v3 := h.bx.c 3 (.int .i64 x.at_) rfl
 have K := get_any x B d key w h.kat ho.1 ho.2
 unfold vOfX at K
 unfold listR missR
 have HV := hQ0 h
 cases hG : getR x.keys key with
 | none =>
  rw [hG] at K
  have HK := hQ0 K
  have hlt := h.bx.lt
  clear hG K h
  simp only [Option.isNone_none, Bool.or_true, Option.getD_none]
  have hmk := make_1
  go_enter Tryz.func102, Tryz.ntmps102; (try simp only [List.append_eq, List.cons_append, List.nil_append])
  go_wp2_with (go_at_call 103; refine HK.out.mono ?_; rintro e w1 ⟨hb1, rfl⟩; (have hV1 := HV.out.below hb1); have v4 := hV1.bx.c 4 (.bool m) rfl; have vz := hV1.bx.fz 4; have hlt1 := hV1.bx.lt)
  go_ret
  have hV1 := HV.out.below hb1
  have hb := hV1.bx.set (.bool true) (j := 4) rfl
  have z := iat_zeros (w1.setCell ⟨vb, 4, none⟩ (.bool true)) 1 3
  have hsz : (w1.setCell ⟨vb, 4, none⟩ (.bool true)).heap.size = w1.heap.size := by simp
  rw [hsz] at z
  refine ⟨_, _, rfl, z, (But.set (p := ⟨vb, 4, none⟩) (But.of_below hb1 (Nat.le_refl _)) (.bool true) (.inl rfl)).alloc _, hb.alloc _, ?_⟩
  obtain ⟨w0, q1, q2, q3⟩ := hV1.ks
  exact ⟨w0, q1, (q2.setCell (by simpa using q3) _).alloc (by simpa using q2.size) _, q3⟩
 | some vs =>
  rw [hG] at K
  have HK := hQ0 K
  clear hG K
  simp only [Option.isNone_some, Bool.or_false, Option.getD_some]
  go_enter Tryz.func102, Tryz.ntmps102; (try simp only [List.append_eq, List.cons_append, List.nil_append])
  go_wp2_with (go_at_call 103; refine HK.out.mono ?_; rintro e w1 ⟨hb1, A, c, rfl, hown⟩)
  go_ret
  exact ⟨A, c, rfl, OwnI.iat hown, But.of_below hb1 (Nat.le_refl _), HV.out.below hb1⟩
set_option maxRecDepth 100000 in
set_option maxHeartbeats 1000000 in
theorem list_any2 (w : World) (vb : Nat) (x : IV) (B : Option Addr) (d : Nat) (m : Bool) (key : ByteArray) (h : VAt w vb x B d m) (ho : IvOk x) :
  Calls Tryz.prog 102 #[.pointer (some ⟨vb, 0, none⟩), .string key, .int .i64 2] w (ListOut (listR x key 2) x B d vb (missR x key m) w) := by
 have v0 := h.bx.c 0 (.string x.word) rfl
 have v1 := h.bx.c 1 (.string x.name) rfl
 have v2 := h.bx.c 2 (.slice B x.keys.length d) rfl
 have v3 := h.bx.c 3 (.int .i64 x.at_) rfl
 have K := get_any x B d key w h.kat ho.1 ho.2
 unfold vOfX at K
 unfold listR missR
 have HV := hQ0 h
 cases hG : getR x.keys key with
 | none =>
  rw [hG] at K
  have HK := hQ0 K
  have hlt := h.bx.lt
  clear hG K h
  simp only [Option.isNone_none, Bool.or_true, Option.getD_none]
  have hmk := make_2
  go_enter Tryz.func102, Tryz.ntmps102; (try simp only [List.append_eq, List.cons_append, List.nil_append])
  go_wp2_with (go_at_call 103; refine HK.out.mono ?_; rintro e w1 ⟨hb1, rfl⟩; (have hV1 := HV.out.below hb1); have v4 := hV1.bx.c 4 (.bool m) rfl; have vz := hV1.bx.fz 4; have hlt1 := hV1.bx.lt)
  go_ret
  have hV1 := HV.out.below hb1
  have hb := hV1.bx.set (.bool true) (j := 4) rfl
  have z := iat_zeros (w1.setCell ⟨vb, 4, none⟩ (.bool true)) 2 3
  have hsz : (w1.setCell ⟨vb, 4, none⟩ (.bool true)).heap.size = w1.heap.size := by simp
  rw [hsz] at z
  refine ⟨_, _, rfl, z, (But.set (p := ⟨vb, 4, none⟩) (But.of_below hb1 (Nat.le_refl _)) (.bool true) (.inl rfl)).alloc _, hb.alloc _, ?_⟩
  obtain ⟨w0, q1, q2, q3⟩ := hV1.ks
  exact ⟨w0, q1, (q2.setCell (by simpa using q3) _).alloc (by simpa using q2.size) _, q3⟩
 | some vs =>
  rw [hG] at K
  have HK := hQ0 K
  clear hG K
  simp only [Option.isNone_some, Bool.or_false, Option.getD_some]
  go_enter Tryz.func102, Tryz.ntmps102; (try simp only [List.append_eq, List.cons_append, List.nil_append])
  go_wp2_with (go_at_call 103; refine HK.out.mono ?_; rintro e w1 ⟨hb1, A, c, rfl, hown⟩)
  go_ret
  exact ⟨A, c, rfl, OwnI.iat hown, But.of_below hb1 (Nat.le_refl _), HV.out.below hb1⟩
def vecR (x : IV) (key : ByteArray) : Vc := ⟨(listR x key 2).getD 0 0, (listR x key 2).getD 1 0⟩
def oneR (x : IV) (key : ByteArray) : Int := (listR x key 1).getD 0 0
def KeyOut (v : Value) (x : IV) (B : Option Addr) (d vb : Nat) (m : Bool) (w : World) (e : Ending) (w' : World) : Prop := e = .returned v ∧ But vb w w' ∧ VAt w' vb x B d m
theorem listR_two {x : IV} {key : ByteArray} (hn : ∀ vs, getR x.keys key = some vs → vs.length = 2) : listR x key 2 = [(vecR x key).x, (vecR x key).y] := by
 unfold vecR
 have h2 : (listR x key 2).length = 2 := by
  unfold listR
  cases hG : getR x.keys key with
  | none => rfl
  | some vs => exact hn vs hG
 obtain ⟨a, b, h⟩ : ∃ a b, listR x key 2 = [a, b] := by
  match hl : listR x key 2, h2 with
  | [a, b], _ => exact ⟨a, b, rfl⟩
 rw [h]
 rfl
theorem listR_one {x : IV} {key : ByteArray} (hn : ∀ vs, getR x.keys key = some vs → vs.length = 1) : listR x key 1 = [oneR x key] := by
 unfold oneR
 have h2 : (listR x key 1).length = 1 := by
  unfold listR
  cases hG : getR x.keys key with
  | none => rfl
  | some vs => exact hn vs hG
 obtain ⟨a, h⟩ : ∃ a, listR x key 1 = [a] := by
  match hl : listR x key 1, h2 with
  | [a], _ => exact ⟨a, rfl⟩
 rw [h]
 rfl
set_option maxRecDepth 100000 in
set_option maxHeartbeats 1000000 in
theorem vone_any (w : World) (vb : Nat) (x : IV) (B : Option Addr) (d : Nat) (m : Bool) (key : ByteArray) (h : VAt w vb x B d m) (ho : IvOk x) (hn : ∀ vs, getR x.keys key = some vs → vs.length = 1) :
  Calls Tryz.prog 101 #[.pointer (some ⟨vb, 0, none⟩), .string key] w (KeyOut (.int .i64 (oneR x key)) x B d vb (missR x key m) w) := by
 have hL := listR_one hn
 have K := list_any1 w vb x B d m key h ho
 rw [hL] at K
 have HK := hQ0 K
 clear K hL hn h
 go_enter Tryz.func101, Tryz.ntmps101; (try simp only [List.append_eq, List.cons_append, List.nil_append])
 go_wp2_with (go_at_call 102; refine HK.out.mono ?_; rintro e w1 ⟨A, c, rfl, hA, hbt, hV1⟩; (obtain ⟨g, o, rfl, hg, c0⟩ := hA 0 _ rfl); simp only [Nat.add_zero] at c0)
 go_ret
 exact ⟨rfl, hbt, hV1⟩
set_option maxRecDepth 100000 in
set_option maxHeartbeats 1000000 in
theorem vec_any (w : World) (vb : Nat) (x : IV) (B : Option Addr) (d : Nat) (m : Bool) (key : ByteArray) (h : VAt w vb x B d m) (ho : IvOk x) (hn : ∀ vs, getR x.keys key = some vs → vs.length = 2) :
  Calls Tryz.prog 100 #[.pointer (some ⟨vb, 0, none⟩), .string key] w (KeyOut (.agg #[.int .i64 (vecR x key).x, .int .i64 (vecR x key).y]) x B d vb (missR x key m) w) := by
 have hL := listR_two hn
 obtain ⟨a, ha⟩ : ∃ a, a = (vecR x key).x := ⟨_, rfl⟩
 obtain ⟨b, hb⟩ : ∃ b, b = (vecR x key).y := ⟨_, rfl⟩
 rw [← ha, ← hb] at hL ⊢
 have hlt := h.bx.lt
 have hVn := h.below ((Below.refl w.heap.size w).alloc (Nat.le_refl _) (.cells #[.int .i64 0, .int .i64 0] 23))
 have K := list_any2 _ vb x B d m key hVn ho
 rw [hL] at K
 have HK := hQ0 K
 clear K hL hn h ha hb hVn
 go_enter Tryz.func100, Tryz.ntmps100; (try simp only [List.append_eq, List.cons_append, List.nil_append])
 go_wp2_with (go_at_call 102; refine HK.out.mono ?_; rintro e w1 ⟨A, c, rfl, hA, hbt, hV1⟩; (have hR1 : BoxAt w1 w.heap.size [.int .i64 0, .int .i64 0] := (BoxAt.new w [.int .i64 0, .int .i64 0] 23).block hbt.size (hbt.block _ (by simp) (by omega))); (have r0 := hR1.c 0 (.int .i64 0) rfl); (have r1 := hR1.c 1 (.int .i64 0) rfl); (have rf := hR1.fz); (have rl := hR1.lt); (obtain ⟨g, o, hAe, hg, c0⟩ := hA 0 _ rfl); subst hAe; (obtain ⟨g', o', hAe, hg', c1⟩ := hA 1 _ rfl); simp only [Option.some.injEq, Addr.mk.injEq, and_true] at hAe; (obtain ⟨rfl, rfl⟩ := hAe); simp only [Nat.add_zero] at c0)
 have hz_w1 := hbt.size
 simp at hz_w1
 refine wp_region_floatQ w1.heap.size 7 [7] (Nat.le_refl _) (fun _ => True) trivial Cl.tt (by kernel_rfl) (by kernel_rfl) ?_
 refine wpQI_start [0, 1, 2, 3, 4, 5, 6] ?_; (iterate 7 (first | (apply wpQI_step (zA rfl) (by kernel_rfl) (by exact rfl); (focus (intro W' hS; have hcS := hS.cells; go_simp; (iterate 2 (first | done | exact rfl | exact bB _ | go_simp)))); intro K hK; go_simp; (try go_bits); refine hK _ ?_; clear hK K))); refine wpQI_nil ?_
 refine wpQ_done (by kernel_rfl) ?_
 intro w2 hF_w2 hSG
 have hz_w2 := hSG.1.1
 have hb_w2 := hSG.1.2
 clear hSG
 (with_reducible apply cel2 (b := w.heap.size) hb_w2); ((try simp) <;> omega); omega; (iterate 2 (focus (go_simp; try exact rfl))); (intro o; go_simp); intro cc cc fz hl
 (try simp only [List.filterMap_cons, List.filterMap_nil, List.getElem?_cons_succ, List.getElem?_cons_zero])
 have hB2 := hbt.below hb_w2 hbt.size
 have hV2 := hV1.below hb_w2
 go_wp2_with fail
 refine bodyPost_ret (v := .agg #[.int .i64 a, .int .i64 b]) (by simp only [results, Tryz.results100]; go_simp) rfl ⟨?_, ?_⟩
 · rfl
 · refine ⟨?_, ?_⟩
   · exact ((((But.refl vb w).alloc _).trans hB2).set (p := ⟨w.heap.size, 0, none⟩) _ (.inr (Nat.le_refl _))).set (p := ⟨w.heap.size, 1, none⟩) _ (.inr (Nat.le_refl _))
   · obtain ⟨q1, w0, q2, q3, q4⟩ := hV2
     refine ⟨(q1.low (by simp only; omega) _).low (by simp only; omega) _, w0, q2, (q3.setCell (by simp only; omega) _).setCell (by simp only; omega) _, q4⟩
def k_level : ByteArray := ⟨#[108, 101, 118, 101, 108]⟩
def k_rest : ByteArray := ⟨#[114, 101, 115, 116]⟩
def k_grip : ByteArray := ⟨#[103, 114, 105, 112]⟩
def k_coil : ByteArray := ⟨#[99, 111, 105, 108]⟩
def k_switch : ByteArray := ⟨#[115, 119, 105, 116, 99, 104]⟩
def k_kick : ByteArray := ⟨#[107, 105, 99, 107]⟩
def k_min : ByteArray := ⟨#[109, 105, 110]⟩
def k_from : ByteArray := ⟨#[102, 114, 111, 109]⟩
def k_to : ByteArray := ⟨#[116, 111]⟩
def k_center : ByteArray := ⟨#[99, 101, 110, 116, 101, 114]⟩
def k_size : ByteArray := ⟨#[115, 105, 122, 101]⟩
def k_into : ByteArray := ⟨#[105, 110, 116, 111]⟩
def k_half : ByteArray := ⟨#[104, 97, 108, 102]⟩
def k_out : ByteArray := ⟨#[111, 117, 116]⟩
def k_dir : ByteArray := ⟨#[100, 105, 114]⟩
def k_length : ByteArray := ⟨#[108, 101, 110, 103, 116, 104]⟩
def k_range : ByteArray := ⟨#[114, 97, 110, 103, 101]⟩
def k_up : ByteArray := ⟨#[117, 112]⟩
def k_down : ByteArray := ⟨#[100, 111, 119, 110]⟩
def k_max : ByteArray := ⟨#[109, 97, 120]⟩
def k_mirror : ByteArray := ⟨#[109, 105, 114, 114, 111, 114]⟩
def k_limit : ByteArray := ⟨#[108, 105, 109, 105, 116]⟩
def k_radius : ByteArray := ⟨#[114, 97, 100, 105, 117, 115]⟩
def k_balls : ByteArray := ⟨#[98, 97, 108, 108, 115]⟩
def k_gravity : ByteArray := ⟨#[103, 114, 97, 118, 105, 116, 121]⟩
def k_drag : ByteArray := ⟨#[100, 114, 97, 103]⟩
def k_trough : ByteArray := ⟨#[116, 114, 111, 117, 103, 104]⟩
def pairR (x : IV) (key : ByteArray) : Int × Int := match getR x.keys key with
  | some vs => (vs.getD 0 0, vs.getD 1 0)
  | none => (0, 0)
def Has1 (x : IV) (key : ByteArray) : Prop := ∀ vs, getR x.keys key = some vs → vs.length = 1
def Has2 (x : IV) (key : ByteArray) : Prop := ∀ vs, getR x.keys key = some vs → vs.length = 2
theorem Has1.ne {x : IV} {key : ByteArray} (h : Has1 x key) : ∀ vs, getR x.keys key = some vs → vs ≠ [] := fun vs hv e => by have := h vs hv; rw [e] at this; simp at this
set_option maxRecDepth 100000 in
set_option maxHeartbeats 1000000 in
theorem vlevel_any (w : World) (vb : Nat) (x : IV) (B : Option Addr) (d : Nat) (m : Bool) (h : VAt w vb x B d m) (ho : IvOk x) (h1 : Has1 x k_level) :
  Calls Tryz.prog 99 #[.pointer (some ⟨vb, 0, none⟩)] w fun e w' => e = .returned (.int .i64 (orR x k_level 0)) ∧ Below w.heap.size w w' := by
 have HK := hQ0 (or_any w vb x B d m k_level 0 h ho h1.ne)
 clear h h1
 go_enter Tryz.func99, Tryz.ntmps99; (try simp only [List.append_eq, List.cons_append, List.nil_append])
 go_wp2_with (go_at_call 96; refine HK.out.mono ?_; rintro e w1 ⟨rfl, hb1⟩)
 go_ret
 exact ⟨rfl, hb1⟩
set_option maxRecDepth 100000 in
set_option maxHeartbeats 1000000 in
theorem vbounce_any (w : World) (vb : Nat) (x : IV) (B : Option Addr) (d : Nat) (m : Bool) (h : VAt w vb x B d m) (ho : IvOk x) (h1 : Has1 x k_rest) (h2 : Has1 x k_grip) :
  Calls Tryz.prog 94 #[.pointer (some ⟨vb, 0, none⟩)] w fun e w' => e = .returned (.tuple #[.int .i64 (orR x k_rest 8), .int .i64 (orR x k_grip 0)]) ∧ Below w.heap.size w w' := by
 have HK := hQ0 (or_any w vb x B d m k_rest 8 h ho h1.ne)
 have HK2 := hQ0 (fun (W : World) (hb : Below w.heap.size w W) => or_any W vb x B d m k_grip 0 (h.below hb) ho h2.ne)
 clear h h1 h2
 obtain ⟨r1, hr1⟩ : ∃ r, r = orR x k_rest 8 := ⟨_, rfl⟩
 obtain ⟨r2, hr2⟩ : ∃ r, r = orR x k_grip 0 := ⟨_, rfl⟩
 rw [← hr1] at HK
 rw [← hr2] at HK2
 rw [← hr1, ← hr2]
 clear hr1 hr2
 go_enter Tryz.func94, Tryz.ntmps94; (try simp only [List.append_eq, List.cons_append, List.nil_append])
 go_wp2_with (first | (have hq := hb1; go_at_call 96; refine (HK2.out _ hq).mono ?_; rintro e w2 ⟨rfl, hb2⟩) | (go_at_call 96; refine HK.out.mono ?_; rintro e w1 ⟨rfl, hb1⟩))
 refine bodyPost_ret (v := .tuple #[.int .i64 r1, .int .i64 r2]) (by simp only [results, Tryz.results94]; go_simp) rfl ⟨?_, ?_⟩
 · rfl
 · exact hb1.trans (hb2.mono hb1.size)
set_option maxRecDepth 100000 in
set_option maxHeartbeats 1000000 in
theorem vports_any (w : World) (vb : Nat) (x : IV) (B : Option Addr) (d : Nat) (m : Bool) (h : VAt w vb x B d m) (ho : IvOk x) (h1 : Has1 x k_coil) (h2 : Has1 x k_switch) :
  Calls Tryz.prog 95 #[.pointer (some ⟨vb, 0, none⟩)] w fun e w' => e = .returned (.tuple #[.int .i64 (orR x k_coil (-1)), .int .i64 (orR x k_switch (-1))]) ∧ Below w.heap.size w w' := by
 have HK := hQ0 (or_any w vb x B d m k_coil (-1) h ho h1.ne)
 have HK2 := hQ0 (fun (W : World) (hb : Below w.heap.size w W) => or_any W vb x B d m k_switch (-1) (h.below hb) ho h2.ne)
 clear h h1 h2
 obtain ⟨r1, hr1⟩ : ∃ r, r = orR x k_coil (-1) := ⟨_, rfl⟩
 obtain ⟨r2, hr2⟩ : ∃ r, r = orR x k_switch (-1) := ⟨_, rfl⟩
 rw [← hr1] at HK
 rw [← hr2] at HK2
 rw [← hr1, ← hr2]
 clear hr1 hr2
 go_enter Tryz.func95, Tryz.ntmps95; (try simp only [List.append_eq, List.cons_append, List.nil_append])
 go_wp2_with (first | (have hq := hb1; go_at_call 96; refine (HK2.out _ hq).mono ?_; rintro e w2 ⟨rfl, hb2⟩) | (go_at_call 96; refine HK.out.mono ?_; rintro e w1 ⟨rfl, hb1⟩))
 refine bodyPost_ret (v := .tuple #[.int .i64 r1, .int .i64 r2]) (by simp only [results, Tryz.results95]; go_simp) rfl ⟨?_, ?_⟩
 · rfl
 · exact hb1.trans (hb2.mono hb1.size)
set_option maxRecDepth 100000 in
set_option maxHeartbeats 1000000 in
theorem vpair_any (w : World) (vb : Nat) (x : IV) (B : Option Addr) (d : Nat) (m : Bool) (key : ByteArray) (h : VAt w vb x B d m) (ho : IvOk x) (hn : Has2 x key) :
  Calls Tryz.prog 158 #[.pointer (some ⟨vb, 0, none⟩), .string key] w fun e w' => e = .returned (.tuple #[.int .i64 (pairR x key).1, .int .i64 (pairR x key).2]) ∧ Below w.heap.size w w' := by
 have v0 := h.bx.c 0 (.string x.word) rfl
 have v1 := h.bx.c 1 (.string x.name) rfl
 have v2 := h.bx.c 2 (.slice B x.keys.length d) rfl
 have v3 := h.bx.c 3 (.int .i64 x.at_) rfl
 have K := get_any x B d key w h.kat ho.1 ho.2
 unfold vOfX at K
 unfold pairR
 cases hG : getR x.keys key with
 | none =>
  rw [hG] at K
  have HK := hQ0 K
  clear hG K hn
  go_enter Tryz.func158, Tryz.ntmps158; (try simp only [List.append_eq, List.cons_append, List.nil_append])
  go_wp2_with (go_at_call 103; refine HK.out.mono ?_; rintro e w1 ⟨hb1, rfl⟩)
  refine bodyPost_ret (v := .tuple #[.int .i64 0, .int .i64 0]) (by simp only [results, Tryz.results158]; go_simp) rfl ⟨?_, ?_⟩
  · rfl
  · exact hb1
 | some vs =>
  obtain ⟨a, b, rfl⟩ : ∃ a b, vs = [a, b] := by
   match hl : vs, hn vs hG with
   | [a, b], _ => exact ⟨a, b, rfl⟩
  rw [hG] at K
  have HK := hQ0 K
  clear hG K hn
  go_enter Tryz.func158, Tryz.ntmps158; (try simp only [List.append_eq, List.cons_append, List.nil_append])
  go_wp2_with (go_at_call 103; refine HK.out.mono ?_; rintro e w1 ⟨hb1, A, c, rfl, hown⟩; (have hA := OwnI.iat hown); (obtain ⟨g, o, hAe, hg, c0⟩ := hA 0 _ rfl); subst hAe; (obtain ⟨g', o', hAe, hg', c1⟩ := hA 1 _ rfl); simp only [Option.some.injEq, Addr.mk.injEq, and_true] at hAe; (obtain ⟨rfl, rfl⟩ := hAe); simp only [Nat.add_zero] at c0)
  have hz_w1 := hb1.size
  refine wp_region_floatQ w1.heap.size 7 [7] (Nat.le_refl _) (fun _ => True) trivial Cl.tt (by kernel_rfl) (by kernel_rfl) ?_
  refine wpQI_start [0, 1, 2, 3, 4, 5, 6] ?_; (iterate 7 (first | (apply wpQI_step (zA rfl) (by kernel_rfl) (by exact rfl); (focus (intro W' hS; have hcS := hS.cells; go_simp; (iterate 2 (first | done | exact rfl | exact bB _ | go_simp)))); intro K hK; go_simp; (try go_bits); refine hK _ ?_; clear hK K))); refine wpQI_nil ?_
  refine wpQ_done (by kernel_rfl) ?_
  intro w2 hF_w2 hSG
  have hz_w2 := hSG.1.1
  have hb_w2 := hSG.1.2
  clear hSG
  skip
  (try simp only [List.filterMap_cons, List.filterMap_nil, List.getElem?_cons_succ, List.getElem?_cons_zero])
  go_wp2_with fail
  refine bodyPost_ret (v := .tuple #[.int .i64 a, .int .i64 b]) (by simp only [results, Tryz.results158]; go_simp) rfl ⟨?_, ?_⟩
  · rfl
  · exact hb1.trans (hb_w2.mono hb1.size)
def kindWs : List ByteArray := [⟨#[]⟩, ⟨#[119, 97, 108, 108]⟩, ⟨#[103, 97, 116, 101]⟩, ⟨#[116, 97, 114, 103, 101, 116]⟩, ⟨#[115, 108, 105, 110, 103]⟩]
def kindR (s : ByteArray) : Int := Lib.idxOfS kindWs s
set_option maxRecDepth 100000 in
set_option maxHeartbeats 1000000 in
theorem kind_any (s : ByteArray) (w : World) : Calls Tryz.prog 98 #[.string s] w fun e w' => e = .returned (.int .i64 (kindR s)) ∧ Below w.heap.size w w' := by
 have K := fun (W : World) (h : W = w.alloc (.cells #[.string ⟨#[]⟩, .string ⟨#[119, 97, 108, 108]⟩, .string ⟨#[103, 97, 116, 101]⟩, .string ⟨#[116, 97, 114, 103, 101, 116]⟩, .string ⟨#[115, 108, 105, 110, 103]⟩] 9)) => Tryz.slices_Index_string w.heap.size 0 5 5 kindWs s W (by decide) (by omega) (by
  intro j hj
  rw [h, Nat.zero_add, World.cell?_alloc_new]
  match j, hj with
  | 0, _ => rfl
  | 1, _ => rfl
  | 2, _ => rfl
  | 3, _ => rfl
  | 4, _ => rfl
  | j + 5, hj => exact absurd hj (by simp [kindWs]))
 have HK := hQ0 K
 clear K
 go_enter Tryz.func98, Tryz.ntmps98; (try simp only [List.append_eq, List.cons_append, List.nil_append])
 go_wp2_with (go_at_call 159; refine (HK.out _ rfl).mono ?_; rintro e w1 ⟨rfl, rfl⟩)
 go_ret
 exact ⟨rfl, by ((with_reducible (repeat (first | exact bR _ _ | apply bS | apply bA | apply bD | refine bT ?_ (by assumption) ?_ | refine bO (by assumption) ?_ ?_))) <;> (first | omega | (simp <;> omega)))⟩
end Go.Proofs.YtbpcjpiaimdpnaaGreatDoor
namespace Go.Proofs.YtbpcjpiaimdpnaaGreatDoor
open Go
set_option linter.unusedVariables false
theorem keysF_two {e : Nat} {word : ByteArray} : ∀ (f : Nat) (acc : List KV) (l : List WV) {x : List KV} {r : List WV}, (∀ k ∈ acc, k.vals.length ≤ 2) → keysF e word f acc l = .ok x r → ∀ k ∈ x, k.vals.length ≤ 2
 | 0, acc, l, x, r, ha, h => by simp only [keysF, PR.ok.injEq] at h; obtain ⟨rfl, rfl⟩ := h; exact ha
 | f + 1, acc, [], x, r, ha, h => by simp [keysF] at h
 | f + 1, acc, y :: l, x, r, ha, h => by
  simp only [keysF] at h
  split at h
  · simp only [PR.ok.injEq] at h; obtain ⟨rfl, rfl⟩ := h; exact ha
  · split at h
    · cases h
    · split at h
      · cases h
      · split at h
        · cases h
        · cases hn : numsF e (arR word y.text).toNat [] l with
          | err a b => simp only [hn] at h; cases h
          | ok vs l' =>
           simp only [hn] at h
           have h1 := (numsF_len _ _ _ hn).2
           have h2 := (arR_bd word y.text).2
           refine keysF_two f _ l' ?_ h
           intro k hk
           rcases List.mem_append.1 hk with hk | hk
           · exact ha k hk
           · rw [List.mem_singleton] at hk
             rw [hk]
             show vs.length ≤ 2
             simp only [List.length_nil] at h1
             omega
theorem restF_two {e a : Nat} {word name : ByteArray} {l : List WV} {x : IV} {r : List WV} (h : restF e word name a l = .ok x r) : x.word = word ∧ x.name = name ∧ ∀ k ∈ x.keys, k.vals.length ≤ 2 := by
 unfold restF at h
 cases hk : keysF e word (l.length + 1) [] l with
 | err c b => simp only [hk] at h; cases h
 | ok ks l' =>
  simp only [hk, PR.ok.injEq] at h
  obtain ⟨rfl, rfl⟩ := h
  exact ⟨rfl, rfl, keysF_two _ _ _ (by simp) hk⟩
theorem itemF_two {e : Nat} {l : List WV} {x : IV} {r : List WV} (h : itemF e l = .ok x r) : ∀ k ∈ x.keys, k.vals.length ≤ 2 := by
 cases l with
 | nil => cases h
 | cons y l =>
  simp only [itemF] at h
  split at h
  · cases h
  · split at h
    · cases h
    · split at h
      · exact (restF_two h).2.2
      · cases l with
        | nil => cases h
        | cons z l =>
         simp only at h
         split at h
         · cases h
         · exact (restF_two h).2.2
theorem parseF_ok {e : Nat} (P : IV → Prop) : ∀ (f : Nat) (acc : List IV) (l : List WV) (hP : ∀ (l' : List WV) (x : IV) (r : List WV), l'.length ≤ l.length → (∀ w ∈ l', w ∈ l) → itemF e l' = .ok x r → P x) (hr : ∀ (l' : List WV) (x : IV) (r : List WV), itemF e l' = .ok x r → ∀ w ∈ r, w ∈ l'), acc.length ≤ 400 → (∀ x ∈ acc, P x) → (parseF e f acc l).1.length ≤ 400 ∧ ∀ x ∈ (parseF e f acc l).1, P x
 | 0, acc, l, hP, hr, h1, h2 => ⟨h1, h2⟩
 | f + 1, acc, [], hP, hr, h1, h2 => ⟨h1, h2⟩
 | f + 1, acc, y :: l, hP, hr, h1, h2 => by
  simp only [parseF]
  split
  · exact ⟨by simp, by simp⟩
  · cases hi : itemF e (y :: l) with
    | err a b => exact ⟨by simp, by simp⟩
    | ok x r =>
     have hl := (itemF_len hi).1
     have hs := hr _ _ _ hi
     refine parseF_ok P f _ r (fun l' x' r' h3 h4 h5 => hP l' x' r' (by omega) (fun w hw => hs w (h4 w hw)) h5) hr (by simp only [List.length_append, List.length_cons, List.length_nil]; omega) ?_
     intro z hz
     rcases List.mem_append.1 hz with hz | hz
     · exact h2 z hz
     · rw [List.mem_singleton] at hz
       rw [hz]
       exact hP _ _ _ (Nat.le_refl _) (fun w hw => hw) hi
theorem numsF_mem {e : Nat} : ∀ (n : Nat) (acc : List Int) (l : List WV) {x : List Int} {r : List WV}, numsF e n acc l = .ok x r → (∀ w ∈ r, w ∈ l) ∧ ∀ z ∈ x, z ∈ acc ∨ ∃ w ∈ l, w.num = z
 | 0, acc, l, x, r, h => by simp only [numsF, PR.ok.injEq] at h; obtain ⟨rfl, rfl⟩ := h; exact ⟨fun w hw => hw, fun z hz => .inl hz⟩
 | n + 1, acc, [], x, r, h => by simp [numsF] at h
 | n + 1, acc, y :: l, x, r, h => by
  simp only [numsF] at h
  split at h
  · obtain ⟨h1, h2⟩ := numsF_mem n _ l h
    refine ⟨fun w hw => List.mem_cons_of_mem _ (h1 w hw), fun z hz => ?_⟩
    rcases h2 z hz with h | ⟨w, hw, e⟩
    · rcases List.mem_append.1 h with h | h
      · exact .inl h
      · exact .inr ⟨y, List.mem_cons_self, (List.mem_singleton.1 h).symm⟩
    · exact .inr ⟨w, List.mem_cons_of_mem _ hw, e⟩
  · cases h
theorem keysF_mem {e : Nat} {word : ByteArray} {Q : KV → Prop} : ∀ (f : Nat) (acc : List KV) (l : List WV) {x : List KV} {r : List WV}, (∀ k ∈ acc, Q k) → (∀ (y : WV) (vs : List Int), y ∈ l → y.kind = 1 → ¬ arR word y.text < 0 → vs.length = (arR word y.text).toNat → (∀ z ∈ vs, ∃ w ∈ l, w.num = z) → Q ⟨y.text, vs, y.at_⟩) → keysF e word f acc l = .ok x r → (∀ w ∈ r, w ∈ l) ∧ ∀ k ∈ x, Q k
 | 0, acc, l, x, r, ha, hQ, h => by simp only [keysF, PR.ok.injEq] at h; obtain ⟨rfl, rfl⟩ := h; exact ⟨fun w hw => hw, ha⟩
 | f + 1, acc, [], x, r, ha, hQ, h => by simp [keysF] at h
 | f + 1, acc, y :: l, x, r, ha, hQ, h => by
  simp only [keysF] at h
  split at h
  · simp only [PR.ok.injEq] at h; obtain ⟨rfl, rfl⟩ := h; exact ⟨fun w hw => List.mem_cons_of_mem _ hw, ha⟩
  · split at h
    · cases h
    · rename_i hk1
      split at h
      · cases h
      · rename_i har
        split at h
        · cases h
        · cases hn : numsF e (arR word y.text).toNat [] l with
          | err a b => simp only [hn] at h; cases h
          | ok vs l' =>
           simp only [hn] at h
           obtain ⟨m1, m2⟩ := numsF_mem _ _ _ hn
           have hvl := (numsF_len _ _ _ hn).2
           simp only [List.length_nil, Nat.zero_add] at hvl
           have := keysF_mem f _ l' ?_ (fun y' vs' h1 h2 h3 h4 h5 => hQ y' vs' (List.mem_cons_of_mem _ (m1 y' h1)) h2 h3 h4 (fun z hz => by obtain ⟨w, hw, e⟩ := h5 z hz; exact ⟨w, List.mem_cons_of_mem _ (m1 w hw), e⟩)) h
           · exact ⟨fun w hw => List.mem_cons_of_mem _ (m1 w (this.1 w hw)), this.2⟩
           · intro k hk
             rcases List.mem_append.1 hk with hk | hk
             · exact ha k hk
             · rw [List.mem_singleton] at hk
               rw [hk]
               refine hQ y vs List.mem_cons_self (by simpa using hk1) har hvl (fun z hz => ?_)
               rcases m2 z hz with h | ⟨w, hw, e⟩
               · simp at h
               · exact ⟨w, List.mem_cons_of_mem _ hw, e⟩
theorem itemF_mem {e : Nat} {Q : KV → Prop} {l : List WV} {x : IV} {r : List WV} (hQ : ∀ (word : ByteArray) (y : WV) (vs : List Int), y ∈ l → y.kind = 1 → ¬ arR word y.text < 0 → vs.length = (arR word y.text).toNat → (∀ z ∈ vs, ∃ w ∈ l, w.num = z) → Q ⟨y.text, vs, y.at_⟩) (h : itemF e l = .ok x r) : (∀ w ∈ r, w ∈ l) ∧ ∀ k ∈ x.keys, Q k := by
 have rest : ∀ (word name : ByteArray) (a : Nat) (l' : List WV), (∀ w ∈ l', w ∈ l) → restF e word name a l' = .ok x r → (∀ w ∈ r, w ∈ l) ∧ ∀ k ∈ x.keys, Q k := by
  intro word name a l' hs h
  unfold restF at h
  cases hk : keysF e word (l'.length + 1) [] l' with
  | err c b => simp only [hk] at h; cases h
  | ok ks l'' =>
   simp only [hk, PR.ok.injEq] at h
   obtain ⟨rfl, rfl⟩ := h
   obtain ⟨m1, m2⟩ := keysF_mem (Q := Q) _ _ _ (by simp) (fun y vs h1 h2 h3 h4 h5 => hQ word y vs (hs y h1) h2 h3 h4 (fun z hz => by obtain ⟨w, hw, e⟩ := h5 z hz; exact ⟨w, hs w hw, e⟩)) hk
   exact ⟨fun w hw => hs w (m1 w hw), m2⟩
 cases l with
 | nil => cases h
 | cons y l =>
  simp only [itemF] at h
  split at h
  · cases h
  · split at h
    · cases h
    · split at h
      · exact rest _ _ _ _ (fun w hw => List.mem_cons_of_mem _ hw) h
      · cases l with
        | nil => cases h
        | cons z l =>
         simp only at h
         split at h
         · cases h
         · exact rest _ _ _ _ (fun w hw => List.mem_cons_of_mem _ (List.mem_cons_of_mem _ hw)) h
theorem parseR_ok (s : ByteArray) (P : IV → Prop) (hP : ∀ (l : List WV) (x : IV) (r : List WV), l.length ≤ (scanR s).1.length → (∀ w ∈ l, w ∈ (scanR s).1) → itemF s.size l = .ok x r → P x) : (parseR s).1.length ≤ 400 ∧ ∀ x ∈ (parseR s).1, P x := by
 unfold parseR
 split
 · exact ⟨by simp, by simp⟩
 · exact parseF_ok P _ _ _ hP (fun l' x r h => (itemF_mem (Q := fun _ => True) (fun _ _ _ _ _ _ _ _ => trivial) h).1) (by simp) (by simp)
end Go.Proofs.YtbpcjpiaimdpnaaGreatDoor
namespace Go.Proofs.YtbpcjpiaimdpnaaGreatDoor
open Go Go.RowKit
set_option linter.unusedVariables false
structure TbO (w : World) (base tb : Nat) (t : Tb) (a : TbA) : Prop where
  bx : BoxAt w tb (t.cells a)
  tr : w.ownsRow base 3 1 (.slice a.tr t.tr.length a.trc) t.tr.length (t.tr.map (Value.int .i64))
  ws : w.ownsRow base 53 13 (.slice a.ws t.ws.length a.wsc) t.ws.length (t.ws.flatMap Wl.cells)
  ars : w.ownsRow base 76 12 (.slice a.ars t.ars.length a.arsc) t.ars.length (t.ars.flatMap Ac.cells)
  ps : w.ownsRow base 55 11 (.slice a.ps t.ps.length a.psc) t.ps.length (t.ps.flatMap Ps.cells)
  fs : w.ownsRow base 79 15 (.slice a.fs t.fs.length a.fsc) t.fs.length (t.fs.flatMap Fl.cells)
  zs : w.ownsRow base 59 9 (.slice a.zs t.zs.length a.zsc) t.zs.length (t.zs.flatMap Zn.cells)
  ss : w.ownsRow base 81 10 (.slice a.ss t.ss.length a.ssc) t.ss.length (t.ss.flatMap Sc.cells)
  las : w.ownsRow base 57 6 (.slice a.las t.las.length a.lasc) t.las.length (t.las.flatMap La.cells)
  rs : w.ownsRow base 83 8 (.slice a.rs t.rs.length a.rsc) t.rs.length (t.rs.flatMap Ra.cells)
  ds : w.ownsRow base 61 5 (.slice a.ds t.ds.length a.dsc) t.ds.length (t.ds.flatMap Dr.cells)
  lns : w.ownsRow base 85 7 (.slice a.lns t.lns.length a.lnsc) t.lns.length (t.lns.flatMap Ln.cells)
theorem TbO.below {w w1 : World} {base tb B : Nat} {t : Tb} {a : TbA} (h : TbO w base tb t a) (hb : Below B w w1) (hB : w.heap.size ≤ B) : TbO w1 base tb t a := ⟨h.bx.below hb (Nat.lt_of_lt_of_le h.bx.lt hB), own_below h.tr hb hB, own_below h.ws hb hB, own_below h.ars hb hB, own_below h.ps hb hB, own_below h.fs hb hB, own_below h.zs hb hB, own_below h.ss hb hB, own_below h.las hb hB, own_below h.rs hb hB, own_below h.ds hb hB, own_below h.lns hb hB⟩
theorem rows_own {α : Type} {n : Nat} {f : α → List Value} (hn : 0 < n) (hf : ∀ x, (f x).length = n) {w : World} {base : Nat} {e : TypeId} {A : Option Addr} {c : Nat} {l : List α} (h : w.ownsRow base e n (.slice A l.length c) l.length (l.flatMap f)) : RowsAt n f w A l := fun k x hx => by
 have hl : 0 < l.length := Nat.lt_of_le_of_lt (Nat.zero_le _) (List.getElem?_eq_some_iff.1 hx).1
 obtain ⟨g, rfl, hg, _, _, hc⟩ := own_cells h hl
 exact ⟨g, 0, rfl, hg, fun j u hu => by rw [Nat.zero_add]; exact hc _ _ (flat_get f n hf l k j x u hx hu)⟩
theorem rows_int {w : World} {base : Nat} {e : TypeId} {A : Option Addr} {c : Nat} {l : List Int} (h : w.ownsRow base e 1 (.slice A l.length c) l.length (l.map (Value.int .i64))) : RowsAt 1 (fun x : Int => [Value.int .i64 x]) w A l := fun k x hx => by
 have hl : 0 < l.length := Nat.lt_of_le_of_lt (Nat.zero_le _) (List.getElem?_eq_some_iff.1 hx).1
 obtain ⟨g, rfl, hg, _, _, hc⟩ := own_cells h hl
 refine ⟨g, 0, rfl, hg, fun j u hu => ?_⟩
 rw [Nat.zero_add]
 match j, hu with
 | 0, hu =>
  cases hu
  rw [Nat.mul_one, Nat.add_zero]
  exact hc _ _ (by rw [List.getElem?_map, hx]; rfl)
theorem TbO.at {w : World} {base tb : Nat} {t : Tb} {a : TbA} (h : TbO w base tb t a) : TbAt w t a := ⟨rows_int h.tr, rows_own (n := 13) (f := Wl.cells) (by decide) (fun _ => rfl) h.ws, rows_own (n := 12) (f := Ac.cells) (by decide) (fun _ => rfl) h.ars, rows_own (n := 11) (f := Ps.cells) (by decide) (fun _ => rfl) h.ps, rows_own (n := 15) (f := Fl.cells) (by decide) (fun _ => rfl) h.fs, rows_own (n := 9) (f := Zn.cells) (by decide) (fun _ => rfl) h.zs, rows_own (n := 10) (f := Sc.cells) (by decide) (fun _ => rfl) h.ss, rows_own (n := 6) (f := La.cells) (by decide) (fun _ => rfl) h.las, rows_own (n := 8) (f := Ra.cells) (by decide) (fun _ => rfl) h.rs, rows_own (n := 5) (f := Dr.cells) (by decide) (fun _ => rfl) h.ds, rows_own (n := 7) (f := Ln.cells) (by decide) (fun _ => rfl) h.lns⟩
def t_table : ByteArray := ⟨#[116, 97, 98, 108, 101]⟩
def t_wall : ByteArray := ⟨#[119, 97, 108, 108]⟩
def t_gate : ByteArray := ⟨#[103, 97, 116, 101]⟩
def t_target : ByteArray := ⟨#[116, 97, 114, 103, 101, 116]⟩
def t_sling : ByteArray := ⟨#[115, 108, 105, 110, 103]⟩
def t_arc : ByteArray := ⟨#[97, 114, 99]⟩
def t_post : ByteArray := ⟨#[112, 111, 115, 116]⟩
def t_flipper : ByteArray := ⟨#[102, 108, 105, 112, 112, 101, 114]⟩
def t_zone : ByteArray := ⟨#[122, 111, 110, 101]⟩
def t_saucer : ByteArray := ⟨#[115, 97, 117, 99, 101, 114]⟩
def t_lane : ByteArray := ⟨#[108, 97, 110, 101]⟩
def t_ramp : ByteArray := ⟨#[114, 97, 109, 112]⟩
def t_drain : ByteArray := ⟨#[100, 114, 97, 105, 110]⟩
def t_launcher : ByteArray := ⟨#[108, 97, 117, 110, 99, 104, 101, 114]⟩
def mkWl (x : IV) : Wl := ⟨x.name, kindR x.word, orR x k_level 0, (vecR x k_from).x, (vecR x k_from).y, (vecR x k_to).x, (vecR x k_to).y, orR x k_rest 8, orR x k_grip 0, orR x k_kick 0, orR x k_min 0, orR x k_coil (-1), orR x k_switch (-1)⟩
def mkAc (x : IV) : Ac := ⟨x.name, orR x k_level 0, (vecR x k_center).x, (vecR x k_center).y, (vecR x k_from).x, (vecR x k_from).y, (vecR x k_to).x, (vecR x k_to).y, orR x k_rest 8, orR x k_grip 0, orR x k_min 0, orR x k_switch (-1)⟩
def mkPs (x : IV) : Ps := ⟨x.name, orR x k_level 0, (vecR x k_center).x, (vecR x k_center).y, oneR x k_size, orR x k_rest 8, orR x k_grip 0, orR x k_kick 0, orR x k_min 0, orR x k_coil (-1), orR x k_switch (-1)⟩
def mkFl (x : IV) : Fl := ⟨x.name, orR x k_level 0, (vecR x k_center).x, (vecR x k_center).y, oneR x k_length, (getR x.keys k_mirror).isSome, (vecR x k_range).x, (vecR x k_range).y, orR x k_up 4, orR x k_down 2, orR x k_max 16, orR x k_rest 8, orR x k_grip 0, orR x k_coil (-1), orR x k_switch (-1)⟩
def mkZn (x : IV) : Zn := ⟨x.name, orR x k_level 0, (vecR x k_from).x, (vecR x k_from).y, (vecR x k_to).x, (vecR x k_to).y, (vecR x k_half).x, (vecR x k_half).y, orR x k_coil (-1)⟩
def mkSc (x : IV) : Sc := ⟨x.name, orR x k_level 0, (vecR x k_center).x, (vecR x k_center).y, oneR x k_size, orR x k_limit 1048576, (vecR x k_out).x, (vecR x k_out).y, orR x k_coil (-1), orR x k_switch (-1)⟩
def mkLa (x : IV) : La := ⟨x.name, orR x k_level 0, (vecR x k_center).x, (vecR x k_center).y, oneR x k_size, orR x k_switch (-1)⟩
def mkRa (x : IV) : Ra := ⟨x.name, orR x k_level 0, oneR x k_into, (vecR x k_center).x, (vecR x k_center).y, oneR x k_size, (vecR x k_dir).x, (vecR x k_dir).y⟩
def mkDr (x : IV) : Dr := ⟨x.name, orR x k_level 0, (vecR x k_center).x, (vecR x k_center).y, oneR x k_size⟩
def mkLn (x : IV) : Ln := ⟨x.name, orR x k_level 0, (vecR x k_center).x, (vecR x k_center).y, (vecR x k_out).x, (vecR x k_out).y, orR x k_coil (-1)⟩
def troughF : Nat → Int → Int → List Int
  | 0, _, _ => []
  | n + 1, a, i => (if a = -1 then -1 else a + i) :: troughF n a (i + 1)
def troughR (x : IV) (bal : Int) : List Int := match getR x.keys k_trough with
  | some vs => troughF (min bal.toNat 7) (vs.headD 0) 0
  | none => []
def headR (t : Tb) (x : IV) : Tb := { t with rad := oneR x k_radius, bal := orR x k_balls 1, rst := orR x k_rest 8, gx := (pairR x k_gravity).1, gy := (pairR x k_gravity).2, drg := (pairR x k_drag).1, shf := (pairR x k_drag).2, tr := t.tr ++ troughR x (orR x k_balls 1) }
def putR (t : Tb) (x : IV) : Tb :=
  if x.word = t_table then headR t x
  else if x.word = t_wall ∨ x.word = t_gate ∨ x.word = t_target ∨ x.word = t_sling then { t with ws := t.ws ++ [mkWl x] }
  else if x.word = t_arc then { t with ars := t.ars ++ [mkAc x] }
  else if x.word = t_post then { t with ps := t.ps ++ [mkPs x] }
  else if x.word = t_flipper then { t with fs := t.fs ++ [mkFl x] }
  else if x.word = t_zone then { t with zs := t.zs ++ [mkZn x] }
  else if x.word = t_saucer then { t with ss := t.ss ++ [mkSc x] }
  else if x.word = t_lane then { t with las := t.las ++ [mkLa x] }
  else if x.word = t_ramp then { t with rs := t.rs ++ [mkRa x] }
  else if x.word = t_drain then { t with ds := t.ds ++ [mkDr x] }
  else if x.word = t_launcher then { t with lns := t.lns ++ [mkLn x] }
  else t
def reqR (w : ByteArray) : List ByteArray :=
  if w = t_table then [k_radius]
  else if w = t_wall ∨ w = t_gate ∨ w = t_target ∨ w = t_sling then [k_from, k_to]
  else if w = t_arc then [k_center, k_from, k_to]
  else if w = t_post then [k_center, k_size]
  else if w = t_flipper then [k_range, k_center, k_length]
  else if w = t_zone then [k_from, k_to, k_half]
  else if w = t_saucer then [k_center, k_size, k_out]
  else if w = t_lane then [k_center, k_size]
  else if w = t_ramp then [k_into, k_center, k_size, k_dir]
  else if w = t_drain then [k_center, k_size]
  else if w = t_launcher then [k_center, k_out]
  else []
def missAll (x : IV) : Bool := (reqR x.word).any fun k => (getR x.keys k).isNone
def addAll : List IV → Tb → Bool → Sum (Int × Int) (Tb × Bool)
  | [], t, had => .inr (t, had)
  | x :: l, t, had =>
    if x.word = t_table ∧ had = true then .inl (7, (x.at_ : Int))
    else if missAll x = true then .inl (8, (x.at_ : Int))
    else addAll l (putR t x) (had || decide (x.word = t_table))
def tb0 : Tb := ⟨0, 0, 0, 0, 0, 0, 0, [], [], [], [], [], [], [], [], [], [], []⟩
def compileR (s : ByteArray) : Tb × Int × Int :=
  if (parseR s).2.1 ≠ 0 then (tb0, (parseR s).2.1, ((parseR s).2.2 : Int))
  else match addAll (parseR s).1 tb0 false with
    | .inl (e, at_) => (tb0, e, at_)
    | .inr (t, had) => if had = false then (tb0, 8, (s.size : Int)) else if checkR t ≠ 0 then (tb0, checkR t, 0) else (t, 0, 0)
end Go.Proofs.YtbpcjpiaimdpnaaGreatDoor
