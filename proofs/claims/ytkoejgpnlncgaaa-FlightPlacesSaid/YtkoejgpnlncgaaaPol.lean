/- Lists of integers in memory (polynomials): rows of elements of two cells. -/
import Derived.Test.YtkoejgpnlncgaaaBigT
import Derived.Test.YtkoejgpnlncgaaaWb
namespace Go.Proofs.Ytkoejgpnlncgaaa
open Go Go.RowKit
set_option linter.unusedVariables false
/-- The cells of a list of pairs. -/
def fl : List (Value × Value) → List Value
  | [] => []
  | p :: l => p.1 :: p.2 :: fl l
theorem fl_len (l : List (Value × Value)) : (fl l).length = l.length * 2 := by
  induction l with
  | nil => rfl
  | cons p l ih => simp only [fl, List.length_cons, ih]; omega
theorem fl_append (a b : List (Value × Value)) : fl (a ++ b) = fl a ++ fl b := by
  induction a with
  | nil => rfl
  | cons p l ih => simp only [fl, List.cons_append, ih]
theorem fl_get {l : List (Value × Value)} : ∀ {k : Nat} {p : Value × Value}, l[k]? = some p → (fl l)[k * 2]? = some p.1 ∧ (fl l)[k * 2 + 1]? = some p.2 := by
  induction l with
  | nil => intro k p h; simp at h
  | cons q l ih =>
    intro k p h
    rcases k with _ | k
    · simp at h; subst h; exact ⟨rfl, rfl⟩
    · rw [List.getElem?_cons_succ] at h
      have := ih h
      rw [show (k + 1) * 2 = k * 2 + 1 + 1 by omega]
      simp only [fl, List.getElem?_cons_succ]
      exact this
theorem fl_set {l : List (Value × Value)} (x y : Value) : ∀ {k : Nat}, k < l.length → ((fl l).set (k * 2) x).set (k * 2 + 1) y = fl (l.set k (x, y)) := by
  induction l with
  | nil => intro k h; simp at h
  | cons q l ih =>
    intro k h
    rcases k with _ | k
    · rfl
    · rw [show (k + 1) * 2 = k * 2 + 1 + 1 by omega]
      simp only [fl, List.set_cons_succ, ih (k := k) (by simpa using h)]
/-- An address leads to pairs. -/
def PaAt (w : World) (A : Option Addr) (l : List (Value × Value)) : Prop := ∀ k x, l[k]? = some x → ∃ g o, A = some ⟨g, o, none⟩ ∧ g < w.heap.size ∧ w.cell? ⟨g, o + k * 2, none⟩ = some x.1 ∧ w.cell? ⟨g, o + k * 2 + 1, none⟩ = some x.2
theorem PaAt.below {w w1 : World} {A : Option Addr} {l : List (Value × Value)} (h : PaAt w A l) (hb : Below w.heap.size w w1) : PaAt w1 A l := fun k x hx => by
  obtain ⟨g, o, h1, h2, h3, h4⟩ := h k x hx
  exact ⟨g, o, h1, Nat.lt_of_lt_of_le h2 hb.size, by rw [hb.cell (p := ⟨g, o + k * 2, none⟩) h2]; exact h3, by rw [hb.cell (p := ⟨g, o + k * 2 + 1, none⟩) h2]; exact h4⟩
theorem PaAt.nil (w : World) (A : Option Addr) : PaAt w A [] := fun k x h => by simp at h
theorem PaAt.take {w : World} {A : Option Addr} {l : List (Value × Value)} (h : PaAt w A l) (n : Nat) : PaAt w A (l.take n) := fun k x hx => by
  refine h k x ?_
  rw [List.getElem?_take] at hx
  split at hx
  · exact hx
  · cases hx
def AllC (w : World) (vs : List (Value × Value)) (zs : List Int) : Prop := vs.length = zs.length ∧ ∀ (k : Nat) (p : Value × Value) (z : Int), vs[k]? = some p → zs[k]? = some z → IsC w (.agg #[p.1, p.2]) z
theorem AllC.below {w w1 : World} {vs : List (Value × Value)} {zs : List Int} (h : AllC w vs zs) (hb : Below w.heap.size w w1) : AllC w1 vs zs := ⟨h.1, fun k p z h1 h2 => (h.2 k p z h1 h2).below hb⟩
theorem AllC.nil (w : World) : AllC w [] [] := ⟨rfl, fun k p z h => by simp at h⟩
theorem AllC.take {w : World} {vs : List (Value × Value)} {zs : List Int} (h : AllC w vs zs) (n : Nat) : AllC w (vs.take n) (zs.take n) := by
  refine ⟨by rw [List.length_take, List.length_take, h.1], fun k p z h1 h2 => ?_⟩
  rw [List.getElem?_take] at h1 h2
  split at h1
  · rename_i hk; rw [if_pos hk] at h2; exact h.2 k p z h1 h2
  · cases h1
theorem AllC.snoc {w : World} {vs : List (Value × Value)} {zs : List Int} (h : AllC w vs zs) {p : Value × Value} {z : Int} (hp : IsC w (.agg #[p.1, p.2]) z) : AllC w (vs ++ [p]) (zs ++ [z]) := by
  refine ⟨by simp [h.1], fun k q y h1 h2 => ?_⟩
  rcases Nat.lt_or_ge k vs.length with hk | hk
  · rw [List.getElem?_append_left hk] at h1
    rw [List.getElem?_append_left (by rw [← h.1]; exact hk)] at h2
    exact h.2 k q y h1 h2
  · rw [List.getElem?_append_right hk] at h1
    rw [List.getElem?_append_right (by rw [← h.1]; exact hk), ← h.1] at h2
    obtain ⟨m, hm⟩ : ∃ m, m = k - vs.length := ⟨_, rfl⟩
    rw [← hm] at h1 h2
    rcases m with _ | m
    · simp at h1 h2; subst h1 h2; exact hp
    · simp at h1
theorem AllC.set {w : World} {vs : List (Value × Value)} {zs : List Int} (h : AllC w vs zs) {p : Value × Value} {z : Int} (k : Nat) (hp : IsC w (.agg #[p.1, p.2]) z) : AllC w (vs.set k p) (zs.set k z) := by
  refine ⟨by simp [h.1], fun j q y h1 h2 => ?_⟩
  rw [List.getElem?_set] at h1 h2
  split at h1
  · rename_i he
    rw [if_pos he] at h2
    split at h1
    · rename_i hl
      rw [if_pos (by rw [← h.1]; exact hl)] at h2
      injection h1 with h1; injection h2 with h2; subst h1 h2; exact hp
    · cases h1
  · rename_i he
    rw [if_neg he] at h2
    exact h.2 j q y h1 h2
/-- A polynomial, its integers canonical. -/
def IsP (w : World) (v : Value) (zs : List Int) : Prop := ∃ A c vs, v = .slice A vs.length c ∧ vs.length ≤ c ∧ PaAt w A vs ∧ AllC w vs zs
theorem IsP.below {w w1 : World} {v : Value} {zs : List Int} (h : IsP w v zs) (hb : Below w.heap.size w w1) : IsP w1 v zs := by
  obtain ⟨A, c, vs, h1, h2, h3, h4⟩ := h; exact ⟨A, c, vs, h1, h2, h3.below hb, h4.below hb⟩
theorem IsP.cl (v : Value) (zs : List Int) : Cl (fun w => IsP w v zs) := fun _ _ h hb => h.below hb
theorem isP_nil (w : World) : IsP w (.slice none 0 0) [] := ⟨none, 0, [], rfl, Nat.le_refl _, PaAt.nil _ _, AllC.nil _⟩
def POut (zs : List Int) (w : World) (e : Ending) (w' : World) : Prop := Below w.heap.size w w' ∧ ∃ v, e = .returned v ∧ IsP w' v zs
/-- A row of the call's own. -/
def OwnP (w : World) (base : Nat) (v : Value) (vs : List (Value × Value)) : Prop := w.ownsRow base 65 2 v vs.length (fl vs)
theorem OwnP.nil (w : World) (base : Nat) : OwnP w base (.slice none 0 0) [] := World.ownsRow_nil _ _ _ _
theorem OwnP.fresh {w : World} {base : Nat} {v : Value} {l : List (Value × Value)} (h : OwnP w base v l) : ∀ k, v.ownBlock = some k → base ≤ k := fun k hk => (World.ownsRow.lt h k hk).1
theorem OwnP.below {w w1 : World} {base : Nat} {v : Value} {l : List (Value × Value)} (h : OwnP w base v l) (hb : Below w.heap.size w w1) : OwnP w1 base v l := by
  obtain ⟨h1, h2⟩ := h
  refine ⟨h1, ?_⟩
  rcases h2 with h2 | ⟨g, cap, cur, hv, hg, hh, r⟩
  · exact .inl h2
  · refine .inr ⟨g, cap, cur, hv, hg, ?_, r⟩
    have hlt : g < w.heap.size := (Array.getElem?_eq_some_iff.1 hh).1
    rw [hb.block _ hlt]; exact hh
theorem OwnP.alloc {w : World} {base : Nat} {v : Value} {l : List (Value × Value)} (h : OwnP w base v l) (o : Obj) : OwnP (w.alloc o) base v l := World.ownsRow.alloc h o
theorem OwnP.pa {w : World} {base : Nat} {v : Value} {l : List (Value × Value)} (h : OwnP w base v l) : ∃ A c, v = .slice A l.length c ∧ l.length ≤ c ∧ PaAt w A l := by
  rcases h.2 with ⟨hv, h0⟩ | ⟨g, cap, cur, hv, hb, hh, hc, hm, hs, ht⟩
  · have hl := List.length_eq_zero_iff.1 h0
    subst hl
    exact ⟨none, 0, hv, Nat.le_refl _, PaAt.nil _ _⟩
  · refine ⟨some ⟨g, 0, none⟩, cap, hv, hc, fun k x hx => ⟨g, 0, rfl, (Array.getElem?_eq_some_iff.1 hh).1, ?_⟩⟩
    have key : ∀ j u, (fl l)[j]? = some u → w.cell? ⟨g, 0 + j, none⟩ = some u := fun j u hu => by
      have hcell := World.ownsRow.cells h (g := g) (by rw [hv]; rfl) j u hu
      unfold Addr.add at hcell
      split at hcell
      · rename_i h0; rw [h0]; exact hcell
      · exact hcell
    have := fl_get hx
    exact ⟨key _ _ this.1, key _ _ this.2⟩
theorem OwnP.stored {w : World} {base g n c : Nat} {l : List (Value × Value)} (h : OwnP w base (.slice (some ⟨g, 0, none⟩) n c) l) (hn : l.length = n) {k : Nat} (hk : k < l.length) (x y : Value) :
    OwnP ((w.setCell ⟨g, k * 2, none⟩ x).setCell ⟨g, k * 2 + 1, none⟩ y) base (.slice (some ⟨g, 0, none⟩) n c) (l.set k (x, y)) := by
  unfold OwnP at h ⊢
  rw [hn] at h
  rw [List.length_set, hn, ← fl_set x y hk]
  exact (World.ownsRow.stored (World.ownsRow.stored h (k * 2) x).1 (k * 2 + 1) y).1
theorem OwnP.frozen {w : World} {base g n c : Nat} {l : List (Value × Value)} (h : OwnP w base (.slice (some ⟨g, 0, none⟩) n c) l) (hn : l.length = n) : ∀ o, w.frozen? ⟨g, o, none⟩ = false := fun o => by
  unfold OwnP at h
  rw [hn] at h
  exact World.ownsRow.frozenAt h o
theorem intInfo : (Try.prog.info? 65).map (fun i => (i.zero, i.size, i.bytes)) = some (some (.agg #[.bool false, .slice none 0 0]), 2, 32) := by kernel_rfl
/-- A new row of zeros. -/
def zpair : Value × Value := (.bool false, .slice none 0 0)
theorem madeCells_two (x y : Value) (n : Nat) : (madeCells #[x, y] (n * 2)).toList = fl (List.replicate n (x, y)) := by
  apply List.ext_getElem?
  intro j
  have hl : (fl (List.replicate n (x, y))).length = n * 2 := by rw [fl_len, List.length_replicate]
  by_cases hj : j < n * 2
  · have h1 : (madeCells #[x, y] (n * 2)).toList[j]? = some (#[x, y][j % 2]!) := by simp [madeCells, hj]
    rw [h1]
    obtain ⟨k, hk⟩ : ∃ k, k = j / 2 := ⟨_, rfl⟩
    have hg := fl_get (l := List.replicate n (x, y)) (k := k) (p := (x, y)) (by rw [List.getElem?_replicate, if_pos (by omega)])
    rcases Nat.mod_two_eq_zero_or_one j with h | h
    · rw [show j = k * 2 by omega, hg.1, show k * 2 % 2 = 0 by omega]; rfl
    · rw [show j = k * 2 + 1 by omega, hg.2, show (k * 2 + 1) % 2 = 1 by omega]; rfl
  · have a1 : (madeCells #[x, y] (n * 2)).toList.length = n * 2 := by rw [Array.length_toList, size_madeCells]
    rw [List.getElem?_eq_none (l := (madeCells #[x, y] (n * 2)).toList) (by omega), List.getElem?_eq_none (l := fl (List.replicate n (x, y))) (by omega)]
theorem run_make_poly (n : Nat) (hn : n ≤ 1000000) (w : World) :
    (Instr.makeSlice 35 (.int .i64 (n : Int)) (.int .i64 (n : Int))).run Try.prog w = .ok (.slice (some ⟨w.heap.size, 0, none⟩) n n) (w.alloc (.cells (madeCells #[.bool false, .slice none 0 0] (n * 2)) 65)) := by
  obtain ⟨i, hi, hz, hs, hb⟩ := info_parts intInfo
  have hr := run_make (P := Try.prog) w 35 65 i _ Try.underlying35 hi hz .i64 .i64 n n (by omega) (Int.le_refl _) (by rw [hb]; omega) (by omega)
  simp only [Int.toNat_natCast, hs] at hr
  exact hr
theorem OwnP.made (w : World) (n base : Nat) (hb : base ≤ w.heap.size) (hn : n ≤ 1000000) : OwnP (w.alloc (.cells (madeCells #[.bool false, .slice none 0 0] (n * 2)) 65)) base (.slice (some ⟨w.heap.size, 0, none⟩) n n) (List.replicate n zpair) := by
  unfold OwnP
  refine ⟨by rw [fl_len], .inr ⟨w.heap.size, n, _, by rw [List.length_replicate], hb, heap_alloc_new w _, by rw [List.length_replicate]; exact Nat.le_refl _, by unfold maxLen; omega, size_madeCells _ _, ?_⟩⟩
  rw [List.length_replicate, madeCells_two]
  exact List.take_of_length_le (by rw [fl_len, List.length_replicate]; exact Nat.le_refl _)
theorem isC_zero (w : World) : IsC w (.agg #[.bool false, .slice none 0 0]) 0 := by
  refine ⟨none, 0, ?_, ?_, ?_⟩
  · rw [show (0 : Int).natAbs = 0 from rfl, canN_zero]; rfl
  · rw [show (0 : Int).natAbs = 0 from rfl, canN_zero]; exact Nat.le_refl _
  · rw [show (0 : Int).natAbs = 0 from rfl, canN_zero]; exact LAt.nil _ _
theorem AllC.zeros (w : World) (n : Nat) : AllC w (List.replicate n zpair) (List.replicate n 0) := by
  refine ⟨by simp, fun k p z h1 h2 => ?_⟩
  have e1 := List.eq_of_mem_replicate (List.mem_of_getElem? h1)
  have e2 := List.eq_of_mem_replicate (List.mem_of_getElem? h2)
  subst e1 e2
  exact isC_zero w
theorem isC_parts {w : World} {v : Value} {z : Int} (h : IsC w v z) : ∃ x y, v = .agg #[x, y] := by
  obtain ⟨A, c, rfl, _, _⟩ := h; exact ⟨_, _, rfl⟩
/-- 'append(v, x)', x a pair in a block of its own. -/
theorem wpList_append_pair {w : World} {ops : Array Oper} {rest : List Oper} {o : Oper} {a : Act} {Q : Exit → Act → World → Prop} (hgd : o.guard = none) (s x : Operand)
    (ho : o.op = .call { callee := .builtin .append, args := #[s, x], argTypes := #[35, 35] })
    (base : Nat) (v : Value) (xs : List (Value × Value)) (hs : a.eval s = v) (hown : OwnP w base v xs)
    (b c : Nat) (p : Value × Value) (hx : a.eval x = .slice (some ⟨b, 0, none⟩) 1 c) (h0 : w.cell? ⟨b, 0, none⟩ = some p.1) (h1 : w.cell? ⟨b, 1, none⟩ = some p.2) (ho1 : p.1.oneCell' = true) (ho2 : p.2.oneCell' = true) (h63 : xs.length ≤ 1000000) (hbase : base ≤ w.heap.size)
    (h : ∀ v' w', OwnP w' base v' (xs ++ [p]) → w.grownBy w' v.ownBlock → (v'.ownBlock = v.ownBlock ∨ v'.ownBlock = some w.heap.size) → wpList Try.prog ops Q rest (a.put o.dst v') w') : wpList Try.prog ops Q (o :: rest) a w := by
  obtain ⟨i, hi, hz, hsz, hby⟩ := info_parts intInfo
  refine wpList_append_own_at w hgd s x 35 ho base 65 i _ 2 32 Try.underlying35 hi hz hsz hby rfl (by decide) v xs.length (fl xs) hs hown ⟨b, 0, none⟩ 1 c [p.1, p.2] hx rfl ?_ ?_ (by unfold maxLen; omega) (by omega) hbase ?_
  · intro j u hu
    rcases j with _ | _ | j
    · simp at hu; subst hu; exact h0
    · simp at hu; subst hu; exact h1
    · simp at hu
  · intro u hu
    simp at hu
    rcases hu with rfl | rfl
    · exact ho1
    · exact ho2
  · intro v' w' k1 k2 _ k4
    refine h v' w' ?_ k2 k4
    unfold OwnP
    rw [List.length_append, fl_append]
    exact k1
/-- The limbs of the elements lie apart from a block. -/
def Apt (w : World) (row : Option Nat) (vs : List (Value × Value)) : Prop := ∀ p ∈ vs, ∀ A n c, p.2 = .slice A n c → n ≠ 0 → ∀ g o, A = some ⟨g, o, none⟩ → some g ≠ row ∧ g < w.heap.size
theorem Apt.nil (w : World) (row : Option Nat) : Apt w row [] := fun p hp => by cases hp
theorem Apt.size {w w1 : World} {row : Option Nat} {vs : List (Value × Value)} (h : Apt w row vs) (hs : w.heap.size ≤ w1.heap.size) : Apt w1 row vs := fun p hp A n c e hn g o ea => ⟨(h p hp A n c e hn g o ea).1, Nat.lt_of_lt_of_le (h p hp A n c e hn g o ea).2 hs⟩
theorem Apt.turn {w : World} {row row' : Option Nat} {vs : List (Value × Value)} (h : Apt w row vs) (hr : row' = row ∨ row' = some w.heap.size) : Apt w row' vs := fun p hp A n c e hn g o ea => by
  have h1 := h p hp A n c e hn g o ea
  refine ⟨?_, h1.2⟩
  rcases hr with rfl | rfl
  · exact h1.1
  · intro e; injection e with e; omega
theorem Apt.snoc {w : World} {row : Option Nat} {vs : List (Value × Value)} (h : Apt w row vs) {p : Value × Value} (hp : ∀ A n c, p.2 = .slice A n c → n ≠ 0 → ∀ g o, A = some ⟨g, o, none⟩ → some g ≠ row ∧ g < w.heap.size) : Apt w row (vs ++ [p]) := fun q hq => by
  rcases List.mem_append.1 hq with hq | hq
  · exact h q hq
  · simp at hq; subst hq; exact hp
theorem IsC.grownA {w w1 : World} {x y : Value} {z : Int} {row : Option Nat} (h : IsC w (.agg #[x, y]) z) (hg : w.grownBy w1 row) (ha : ∀ A n c, y = .slice A n c → n ≠ 0 → ∀ g o, A = some ⟨g, o, none⟩ → some g ≠ row ∧ g < w.heap.size) : IsC w1 (.agg #[x, y]) z := by
  obtain ⟨A, c, e, h1, h2⟩ := h
  refine ⟨A, c, e, h1, ?_⟩
  simp only [Value.agg.injEq, Array.mk.injEq, List.cons.injEq, and_true] at e
  by_cases h0 : (canN z.natAbs).length = 0
  · rw [List.length_eq_zero_iff.1 h0]; exact LAt.nil _ _
  · exact h2.grown hg (fun g o ea => (ha A _ c e.2 h0 g o ea).1)
theorem AllC.grown {w w1 : World} {vs : List (Value × Value)} {zs : List Int} {row : Option Nat} (h : AllC w vs zs) (hg : w.grownBy w1 row) (ha : Apt w row vs) : AllC w1 vs zs :=
  ⟨h.1, fun k p z h1 h2 => (h.2 k p z h1 h2).grownA hg (ha p (List.mem_of_getElem? h1))⟩
/-- The length without zeros at the end. -/
def tz : List Int → Nat
  | [] => 0
  | z :: l => if tz l = 0 then (if z = 0 then 0 else 1) else tz l + 1
theorem tz_le (l : List Int) : tz l ≤ l.length := by
  induction l with
  | nil => exact Nat.le_refl _
  | cons z l ih => simp only [tz, List.length_cons]; split <;> (try split) <;> omega
theorem tz_of {l : List Int} : ∀ {n : Nat}, n ≤ l.length → (∀ k z, l[k]? = some z → n ≤ k → z = 0) → (∀ z, 0 < n → l[n - 1]? = some z → z ≠ 0) → tz l = n := by
  induction l with
  | nil => intro n h _ _; simp at h; simp [tz, h]
  | cons y l ih =>
    intro n h1 h2 h3
    rcases n with _ | n
    · have : tz l = 0 := ih (Nat.zero_le _) (fun k z hk _ => h2 (k + 1) z (by simpa using hk) (Nat.zero_le _)) (fun z h => absurd h (by omega))
      simp only [tz, this, if_pos]
      rw [if_pos (h2 0 y rfl (Nat.le_refl _))]
    · have ht : tz l = n := ih (by simpa using h1) (fun k z hk hn => h2 (k + 1) z (by simpa using hk) (by omega)) (fun z hn hz => h3 z (by omega) (by
        obtain ⟨m, rfl⟩ : ∃ m, n = m + 1 := ⟨n - 1, by omega⟩
        simpa using hz))
      simp only [tz, ht]
      rcases n with _ | n
      · rw [if_pos rfl, if_neg (h3 y (by omega) rfl)]
      · rw [if_neg (by omega)]
def trimP (l : List Int) : List Int := l.take (tz l)
end Go.Proofs.Ytkoejgpnlncgaaa
