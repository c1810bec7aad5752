/- The reference's Lift is Lift (plain), and rows in a drawn region. No program in sight. -/
import Derived.Test.YtkoejgpnlncgaaaLfA
import Derived.Laws.AppendOwn
namespace Go.Proofs.Ytkoejgpnlncgaaa
open Go Go.RowKit
set_option linter.unusedVariables false
theorem bet_one {x y z : V2} : (betR x y z = 1 ↔ orderR x.1 x.2 y.1 y.2 z.1 z.2 = -1) ∧ (betR x y z = 0 ↔ orderR x.1 x.2 y.1 y.2 z.1 z.2 = 0) ∧ -1 ≤ betR x y z ∧ betR x y z ≤ 1 := by
  unfold betR orderR kA kC
  generalize sqI (z.1 - x.1) (z.2 - x.2) = a
  generalize sqI (y.1 - x.1) (y.2 - x.2) = b
  generalize sqI z.1 z.2 = c
  generalize sqI y.1 y.2 = d
  have hI : ∀ p q : Int, (p < q ∧ cmpI p q = -1 ∧ cmpV q p = 1) ∨ (p = q ∧ cmpI p q = 0 ∧ cmpV q p = 0) ∨ (q < p ∧ cmpI p q = 1 ∧ cmpV q p = -1) := fun p q => by
    unfold cmpI cmpV
    rcases Int.lt_trichotomy p q with h | h | h
    · exact .inl ⟨h, if_pos h, by rw [if_neg (by omega), if_pos h]⟩
    · subst h; exact .inr (.inl ⟨rfl, by rw [if_neg (by omega), if_neg (by omega)], by rw [if_neg (by omega), if_neg (by omega)]⟩)
    · exact .inr (.inr ⟨h, by rw [if_neg (by omega), if_pos h], if_pos h⟩)
  rcases hI a b with ⟨h, e1, e2⟩ | ⟨h, e1, e2⟩ | ⟨h, e1, e2⟩
  · rw [if_neg (show ¬ cmpI a b = 0 by omega), if_neg (show ¬ b = a by omega)]; omega
  · rw [if_pos e1, if_pos (show b = a by omega)]
    rcases hI c d with ⟨g, f1, f2⟩ | ⟨g, f1, f2⟩ | ⟨g, f1, f2⟩ <;> omega
  · rw [if_neg (show ¬ cmpI a b = 0 by omega), if_neg (show ¬ b = a by omega)]; omega
def refS (x : V2) (l : List V2) (s : V2 × Bool) (y : V2) : V2 × Bool :=
  if smB y = true ∧ allowedR y l = true ∧ y ≠ s.1 then (if betR x y s.1 = 1 then (y, false) else if betR x y s.1 = 0 then (s.1, true) else s) else s
def negR (x : V2) (l : List V2) : List V2 := l.flatMap (fun n => if vd x n < 0 then cornersR x n else [])
/-- What the reference holds and what the program holds. -/
def Rel (s : V2 × Bool) (b : List V2) : Prop := b ≠ [] ∧ s.1 = b.headD (0, 0) ∧ s.2 = !(b.all (fun y => decide (y = b.headD (0, 0))))
theorem cand_cases (x : V2) (l b : List V2) (y : V2) : (¬ (smB y = true ∧ allowedR y l = true) ∧ candR x l b y = b) ∨ ((smB y = true ∧ allowedR y l = true) ∧
    ((orderR x.1 x.2 y.1 y.2 (b.headD (0, 0)).1 (b.headD (0, 0)).2 = -1 ∧ candR x l b y = [y]) ∨ (orderR x.1 x.2 y.1 y.2 (b.headD (0, 0)).1 (b.headD (0, 0)).2 = 0 ∧ candR x l b y = b ++ [y]) ∨
     (¬ orderR x.1 x.2 y.1 y.2 (b.headD (0, 0)).1 (b.headD (0, 0)).2 = -1 ∧ ¬ orderR x.1 x.2 y.1 y.2 (b.headD (0, 0)).1 (b.headD (0, 0)).2 = 0 ∧ candR x l b y = b))) := by
  unfold candR
  by_cases hg : smB y = true ∧ allowedR y l = true
  · refine .inr ⟨hg, ?_⟩
    rw [if_pos hg]
    by_cases o1 : orderR x.1 x.2 y.1 y.2 (b.headD (0, 0)).1 (b.headD (0, 0)).2 = -1
    · exact .inl ⟨o1, if_pos o1⟩
    · by_cases o2 : orderR x.1 x.2 y.1 y.2 (b.headD (0, 0)).1 (b.headD (0, 0)).2 = 0
      · exact .inr (.inl ⟨o2, by rw [if_neg o1, if_pos o2]⟩)
      · exact .inr (.inr ⟨o1, o2, by rw [if_neg o1, if_neg o2]⟩)
  · exact .inl ⟨hg, if_neg hg⟩
theorem rel_step {x : V2} {l : List V2} {s : V2 × Bool} {b : List V2} (h : Rel s b) (y : V2) : Rel (refS x l s y) (candR x l b y) := by
  obtain ⟨h0, h1, h2⟩ := h
  obtain ⟨s1, s2⟩ := s
  simp only at h1 h2
  obtain ⟨e1, e2, e3, e4⟩ := @bet_one x y s1
  rw [h1] at e1 e2
  have hhead : (b ++ [y]).headD (0, 0) = b.headD (0, 0) := by cases b with | nil => exact absurd rfl h0 | cons a r => rfl
  unfold refS
  rcases cand_cases x l b y with ⟨hg, hc⟩ | ⟨hg, ⟨o, hc⟩ | ⟨o, hc⟩ | ⟨o, o', hc⟩⟩ <;> rw [hc]
  · rw [if_neg (fun c => hg ⟨c.1, c.2.1⟩)]
    exact ⟨h0, h1, h2⟩
  · have hy : y ≠ s1 := fun c => by
      rw [c, h1] at o
      unfold orderR cmpV at o
      simp at o
    rw [if_pos ⟨hg.1, hg.2, hy⟩, if_pos (by rw [h1]; exact e1.2 o)]
    exact ⟨by simp, by simp, by simp⟩
  · by_cases hy : y = s1
    · rw [if_neg (fun c => c.2.2 hy)]
      refine ⟨by simp, by rw [hhead]; exact h1, ?_⟩
      rw [hhead, h2, List.all_append]
      simp [hy, h1]
    · rw [if_pos ⟨hg.1, hg.2, hy⟩, if_neg (fun c => by rw [h1] at c; rw [e1.1 c] at o; exact absurd o (by decide)), if_pos (by rw [h1]; exact e2.2 o)]
      refine ⟨by simp, by rw [hhead]; exact h1, ?_⟩
      rw [hhead, List.all_append]
      rw [h1] at hy
      simp only [List.all_cons, List.all_nil, decide_eq_false hy, Bool.false_and, Bool.and_false, Bool.not_false]
  · split
    · rw [if_neg (fun c => by rw [h1] at c; exact o (e1.1 c)), if_neg (fun c => by rw [h1] at c; exact o' (e2.1 c))]
      exact ⟨h0, h1, h2⟩
    · exact ⟨h0, h1, h2⟩
theorem rel_steps {x : V2} {l : List V2} (ys : List V2) : ∀ {s : V2 × Bool} {b : List V2}, Rel s b → Rel (ys.foldl (refS x l) s) (ys.foldl (candR x l) b) := by
  induction ys with
  | nil => intro s b h; exact h
  | cons y ys ih => intro s b h; exact ih (rel_step h y)
theorem best_neg (x : V2) (l : List V2) : ∀ (ns : List V2) (b : List V2), ns.foldl (stepR x l) b = (negR x ns).foldl (candR x l) b := by
  intro ns
  induction ns with
  | nil => intro b; rfl
  | cons n ns ih =>
    intro b
    unfold negR
    rw [List.foldl_cons, List.flatMap_cons, List.foldl_append, ih]
    unfold stepR
    by_cases h : 0 ≤ vd x n
    · rw [if_pos h, if_neg (by omega)]; rfl
    · rw [if_neg h, if_pos (by omega)]; rfl
theorem ref_lift {x : V2} {l : List V2} (hx : smB x = true) (hl : ∀ n ∈ l, smB n = true) (h : ¬ allowedR x l = true) :
    liftR x l = if (((0, 0) :: negR x l).foldl (refS x l) ((0, 0), false)).2 = true then (0, 0) else (((0, 0) :: negR x l).foldl (refS x l) ((0, 0), false)).1 := by
  rw [lift_pick hx hl h]
  unfold bestR
  rw [best_neg, List.foldl_cons]
  have h0 : refS x l ((0, 0), false) (0, 0) = ((0, 0), false) := if_neg (fun c => c.2.2 rfl)
  rw [h0]
  obtain ⟨r1, r2, r3⟩ := @rel_steps x l (negR x l) ((0, 0), false) [(0, 0)] ⟨by simp, rfl, by simp⟩
  unfold pickR
  rw [r2, r3]
  cases ((negR x l).foldl (candR x l) [(0, 0)]).all (fun y => decide (y = ((negR x l).foldl (candR x l) [(0, 0)]).headD (0, 0))) <;> simp
theorem neg_take {x : V2} {l : List V2} {k : Nat} {n : V2} (h : l[k]? = some n) : negR x (l.take (k + 1)) = negR x (l.take k) ++ (if vd x n < 0 then cornersR x n else []) := by
  unfold negR
  rw [List.take_add_one, h, List.flatMap_append]
  simp
theorem neg_len (x : V2) (l : List V2) : (negR x l).length ≤ 4 * l.length := by
  unfold negR
  induction l with
  | nil => simp
  | cons n l ih =>
    rw [List.flatMap_cons, List.length_append, List.length_cons]
    split
    · have : (cornersR x n).length = 4 := rfl
      omega
    · simp only [List.length_nil]; omega
theorem ref_take {x : V2} {l ys : List V2} {k : Nat} {y : V2} (h : ys[k]? = some y) : (ys.take (k + 1)).foldl (refS x l) ((0, 0), false) = refS x l ((ys.take k).foldl (refS x l) ((0, 0), false)) y := by
  rw [List.take_add_one, h, List.foldl_append]
  rfl
theorem ref_sm {x : V2} {l : List V2} (ys : List V2) : ∀ s : V2 × Bool, smB s.1 = true → smB (ys.foldl (refS x l) s).1 = true := by
  induction ys with
  | nil => intro s h; exact h
  | cons y ys ih =>
    intro s h
    refine ih _ ?_
    unfold refS
    split
    · rename_i g
      split
      · exact g.1
      · split <;> exact h
    · exact h
-- rows of one's own
def OwnN (w : World) (base : Nat) (A : Option Addr) (c : Nat) (l : List V2) : Prop := w.ownsRow base 23 2 (.slice A l.length c) l.length (flatV l)
theorem OwnN.cl (base : Nat) (A : Option Addr) (c : Nat) (l : List V2) : Cl (fun w => OwnN w base A c l) := fun _ _ h hb => own_below h hb (Nat.le_refl _)
theorem OwnN.bel {W W' : World} {base B : Nat} {A : Option Addr} {c : Nat} {l : List V2} (h : OwnN W base A c l) (hb : Below B W W') (hB : W.heap.size ≤ B) : OwnN W' base A c l := own_below h hb hB
theorem OwnN.vat {W : World} {base : Nat} {A : Option Addr} {c : Nat} {l : List V2} (h : OwnN W base A c l) : VAt W A l := own_vat h
theorem flatV_app (l m : List V2) : flatV (l ++ m) = flatV l ++ flatV m := by simp [flatV]
theorem ownn_app {w : World} {base n : Nat} {A : Option Addr} {c : Nat} {l m : List V2} (hn : n = l.length + m.length) (h : w.ownsRow base 23 2 (.slice A n c) n (flatV l ++ flatV m)) : OwnN w base A c (l ++ m) := by
  subst hn
  unfold OwnN; rw [List.length_append, flatV_app]; exact h
theorem Own.grown {N : Nat} {W0 W W' : World} {row : Option Nat} (h : Own N W0 W) (hg : W.grownBy W' row) (hr : ∀ k, row = some k → N ≤ k) : Own N W0 W' := by
  have hb := h.2.grown hg h.1 hr
  exact ⟨Nat.le_trans h.1 hg.size, hb⟩
section
variable {P : Program} {N : Nat} {W0 : World}
theorem givesW_appG {w : World} {o : Oper} {a : Act} {K : Value → (World → Prop) → List (Nat × Obj) → Prop} (s x : Operand) (t : TypeId)
    (ho : o.op = .call { callee := .builtin .append, args := #[s, x], argTypes := #[t, t] })
    (base : Nat) (e : TypeId) (i : TypeInfo) (z : Value) (size bytes : Nat) (ht : P.underlying t = some (.slice e)) (hi : P.info? e = some i) (hz : i.zero = some z)
    (hsize : i.size = size) (hby : i.bytes = bytes) (hzs : z.cells.size = size) (hsz : 0 < size)
    (v : Value) (n : Nat) (xs : List Value) (hs : a.eval s = v) (hown : w.ownsRow base e size v n xs)
    (ad : Addr) (m c : Nat) (news : List Value) (hx : a.eval x = .slice (some ad) m c) (hl : news.length = m * size) (hnews : ∀ j u, news[j]? = some u → w.cell? (ad.add j) = some u) (h1 : ∀ u ∈ news, u.oneCell' = true)
    (h63 : n + m ≤ maxLen) (hbytes : (n + m) * bytes ≤ 140737488355328) (hbase : base ≤ w.heap.size)
    (h : ∀ v' w', w'.ownsRow base e size v' (n + m) (xs ++ news) → w.grownBy w' v.ownBlock → (v' = .slice none 0 0 ↔ v = .slice none 0 0 ∧ m = 0) → WPost N W0 K (.returned v') w') : givesW P N W0 K ((execOp a.eval o).run P w) := by
  obtain ⟨v', w', hr, h2, h3, h4⟩ := run_append_own (P := P) w base t o.type e i z size bytes ht hi hz hsize hby hzs hsz v n xs hown ad m c news hl hnews h1 h63 hbytes hbase
  unfold execOp
  simp only [ho, resolve, invoke, builtin, Sem.run_bind, Sem.run_pure, Result.andThen_ok, List.map_toArray, List.map_cons, List.map_nil, hs, hx, hr]
  exact h v' w' h2 h3 h4
end
theorem flatV_one (l : List V2) : ∀ u ∈ flatV l, u.oneCell' = true := by
  intro u hu
  unfold flatV cellsOfV at hu
  rw [List.mem_flatMap] at hu
  obtain ⟨p, _, hp⟩ := hu
  simp at hp
  rcases hp with rfl | rfl <;> rfl
end Go.Proofs.Ytkoejgpnlncgaaa
