/- Merged texts: ClS ClT ClU ClC ClQ ClR ClA ClG ClH ClX ClN ClY (what no proof of the claim needs is left out). -/
import Derived.Test.YtgejdaincnclpaaGreatCh7
import Derived.Test.YtgejdaincnclpaaGreatShelfS
import Derived.Sort.Grow
import Derived.Lib.SlicesCompact
import Derived.Deep.LoopGhost
namespace Go.Proofs.YtgejdaincnclpaaGreat
open Go Go.RowKit
set_option linter.unusedVariables false
def OwnI (w : World) (base : Nat) (A : Option Addr) (c : Nat) (l : List Int) : Prop := w.ownsRow base 3 1 (.slice A l.length c) l.length (l.map (Value.int .i64))
theorem OwnI.iat {w : World} {base : Nat} {A : Option Addr} {c : Nat} {l : List Int} (h : OwnI w base A c l) : IAt w A l := own_iat h
theorem OwnI.below {W W' : World} {base B : Nat} {A : Option Addr} {c : Nat} {l : List Int} (h : OwnI W base A c l) (hb : Below B W W') (hB : W.heap.size ≤ B) : OwnI W' base A c l := own_below h hb hB
theorem OwnI.nil (w : World) (base : Nat) : OwnI w base none 0 [] := World.ownsRow_nil _ _ _ _
theorem ownr_weaker {w : World} {base base' size n : Nat} {e : TypeId} {v : Value} {xs : List Value} (h : w.ownsRow base e size v n xs) (hb : base' ≤ base) : w.ownsRow base' e size v n xs := by
 obtain ⟨h1, h2⟩ := h
 rcases h2 with h2 | ⟨g, cap, cur, hv, hg, r⟩
 · exact ⟨h1, .inl h2⟩
 · exact ⟨h1, .inr ⟨g, cap, cur, hv, Nat.le_trans hb hg, r⟩⟩
theorem ownr_low {w : World} {base size n : Nat} {e : TypeId} {v : Value} {xs : List Value} (h : w.ownsRow base e size v n xs) {p : Addr} (hp : p.block < base) (u : Value) : (w.setCell p u).ownsRow base e size v n xs := by
 obtain ⟨h1, h2⟩ := h
 rcases h2 with h2 | ⟨g, cap, cur, hv, hg, hh, r⟩
 · exact ⟨h1, .inl h2⟩
 · refine ⟨h1, .inr ⟨g, cap, cur, hv, hg, ?_, r⟩⟩
   rw [Below.heap_setCell _ _ _ _ (by omega)]
   exact hh
theorem rowsApart {w : World} {b1 b2 z1 z2 n1 n2 : Nat} {e1 e2 : TypeId} {v1 v2 : Value} {x1 x2 : List Value} (h1 : w.ownsRow b1 e1 z1 v1 n1 x1) (h2 : w.ownsRow b2 e2 z2 v2 n2 x2) (hne : e1 ≠ e2) : v1.ownBlock = none ∨ v1.ownBlock ≠ v2.ownBlock := by
 rcases h1.2 with ⟨rfl, _⟩ | ⟨g, cap, cur, rfl, _, hh, _⟩
 · exact .inl rfl
 · right
   rcases h2.2 with ⟨rfl, _⟩ | ⟨g', cap', cur', rfl, _, hh', _⟩
   · simp [Value.ownBlock]
   · intro e
     simp only [Value.ownBlock, Option.some.injEq] at e
     subst e
     rw [hh] at hh'
     simp only [Option.some.injEq, Obj.cells.injEq] at hh'
     exact hne hh'.2.1
theorem arr_get {l : List Int} {j : Nat} (h : j < l.length) : (l.toArray)[j]! = l[j] := by
 rw [getElem!_pos l.toArray j (by simpa using h)]
 simp
theorem own_holds {w : World} {base c g : Nat} {l : List Int} (h : OwnI w base (some ⟨g, 0, none⟩) c l) : Sort.Holds (Value.int .i64) w g 0 l.toArray := by
 intro j hj
 have hj' : j < l.length := by simpa using hj
 refine ⟨?_, ?_⟩
 · rw [Nat.zero_add, World.ownsRow.cellAt h j (by omega), List.getElem?_map, List.getElem?_eq_getElem hj', arr_get hj']
   rfl
 · rw [Nat.zero_add]; exact World.ownsRow.frozenAt h j
theorem put_grown (w : World) (g q : Nat) (d : Array Int) (os : Array Obj) : w.grownBy (Sort.grow (Sort.putRow (Value.int .i64) (Sort.ahead w q) g 0 d) os) (some g) := by
 refine ⟨rfl, rfl, rfl, ?_, fun k hk hne => ?_⟩
 · rw [Sort.size_grow]
   show w.heap.size ≤ (w.heap.modify g _).size + _
   rw [Array.size_modify]
   omega
 · have hne' : g ≠ k := fun e => hne (by rw [e])
   rw [Sort.heap_grow_old _ _ (by show k < (w.heap.modify g _).size; rw [Array.size_modify]; exact hk)]
   show (w.heap.modify g _)[k]? = _
   rw [Array.getElem?_modify, if_neg hne']
theorem put_own {w : World} {base c g q : Nat} {l l' : List Int} {n : Nat} (h : OwnI w base (some ⟨g, 0, none⟩) c l) (d : List Int) (hd : d.length = l.length) (hn : n ≤ l.length) (hl : l' = d.take n) (os : Array Obj) (hnl : l'.length = n) :
  OwnI (Sort.grow (Sort.putRow (Value.int .i64) (Sort.ahead w q) g 0 d.toArray) os) base (some ⟨g, 0, none⟩) c l' := by
 have h0 := h
 rcases h.2 with ⟨h', _⟩ | ⟨g', cap, cur, h', hb, hg, hlc, hm, hs, htake⟩
 · simp at h'
 · simp only [Value.slice.injEq, Option.some.injEq, Addr.mk.injEq, and_true, true_and] at h'
   obtain ⟨rfl, rfl⟩ := h'
   have hgl : g < w.heap.size := (Array.getElem?_eq_some_iff.1 hg).1
   refine ⟨by simp, .inr ⟨g, c, Sort.putCells (Value.int .i64) 0 d.toArray cur, rfl, hb, ?_, by omega, hm, by simp [Sort.putCells, hs], ?_⟩⟩
   · rw [Sort.heap_grow_old _ _ (by show g < (w.heap.modify g _).size; rw [Array.size_modify]; exact hgl)]
     show (w.heap.modify g _)[g]? = _
     rw [Array.getElem?_modify, if_pos rfl, hg]
     rfl
   · apply List.ext_getElem?
     intro j
     rw [List.getElem?_take, List.getElem?_map]
     by_cases hj : j < l'.length
     · rw [if_pos (by omega), Array.getElem?_toList]
       have hjc : j < cur.size := by omega
       have hjd : j < d.length := by omega
       simp only [Sort.putCells, Array.getElem?_mapIdx, Array.getElem?_eq_getElem hjc, Option.map_some, List.size_toArray]
       rw [if_pos ⟨by omega, by omega⟩, Nat.sub_zero, arr_get hjd, hl, List.getElem?_take, if_pos (by omega), List.getElem?_eq_getElem hjd]
       rfl
     · rw [if_neg (by omega), List.getElem?_eq_none (by omega)]
       rfl
def sortI (l : List Int) : List Int := l.mergeSort fun x y => decide (x ≤ y)
theorem sortI_len (l : List Int) : (sortI l).length = l.length := List.length_mergeSort l
theorem sortI_mem (l : List Int) (x : Int) : x ∈ sortI l ↔ x ∈ l := List.mem_mergeSort
theorem sortI_le (l : List Int) : (sortI l).Pairwise (fun x y => x ≤ y) := by
 have := List.pairwise_mergeSort (le := fun x y : Int => decide (x ≤ y)) (fun a b c h1 h2 => by simp only [decide_eq_true_eq] at *; omega) (fun a b => by simp only [Bool.or_eq_true, decide_eq_true_eq]; omega) l
 simpa [sortI] using this
def setI (l : List Int) : List Int := Lib.compact (sortI l)
theorem asc_unique : ∀ {l r : List Int}, l.Pairwise (fun x y => x < y) → r.Pairwise (fun x y => x < y) → (∀ x, x ∈ l ↔ x ∈ r) → l = r
 | [], [], _, _, _ => rfl
 | [], y :: r, _, _, h => absurd ((h y).2 (by simp)) (by simp)
 | x :: l, [], _, _, h => absurd ((h x).1 (by simp)) (by simp)
 | x :: l, y :: r, hl, hr, h => by
  rw [List.pairwise_cons] at hl hr
  have e : x = y := by
   rcases List.mem_cons.1 ((h x).1 (by simp)) with h1 | h1
   · exact h1
   · rcases List.mem_cons.1 ((h y).2 (by simp)) with h2 | h2
     · exact h2.symm
     · have := hr.1 x h1; have := hl.1 y h2; omega
  subst e
  congr 1
  refine asc_unique hl.2 hr.2 fun z => ?_
  constructor
  · intro hz
    rcases List.mem_cons.1 ((h z).1 (List.mem_cons_of_mem _ hz)) with h1 | h1
    · have := hl.1 z hz; omega
    · exact h1
  · intro hz
    rcases List.mem_cons.1 ((h z).2 (List.mem_cons_of_mem _ hz)) with h1 | h1
    · have := hr.1 z hz; omega
    · exact h1
theorem compact_asc {s : List Int} (hs : s.Pairwise (fun x y => x ≤ y)) : (Lib.compact s).Pairwise (fun x y => x < y) ∧ ∀ x, x ∈ Lib.compact s ↔ x ∈ s := by
 have le : ∀ i j, i ≤ j → j < s.length → s.toArray[i]! ≤ s.toArray[j]! := fun i j hij hj => by
  rw [arr_get (by omega), arr_get hj]
  rcases Nat.lt_or_eq_of_le hij with h | rfl
  · exact List.pairwise_iff_getElem.1 hs i j (by omega) hj h
  · omega
 constructor
 · unfold Lib.compact Lib.compactUpTo
   rw [List.pairwise_map]
   have h1 : ((List.range s.length).filter (Lib.keeps s.toArray)).Pairwise (fun a b => a < b) := List.pairwise_lt_range.filter _
   refine List.Pairwise.imp_of_mem ?_ h1
   intro a b ha hb hab
   rw [List.mem_filter, List.mem_range] at ha hb
   have hk := hb.2
   unfold Lib.keeps at hk
   rw [decide_eq_true_eq] at hk
   have hne : s.toArray[b]! ≠ s.toArray[b - 1]! := by
    rcases hk with h | h
    · omega
    · exact h
   have h2 := le a (b - 1) (by omega) (by omega)
   have h3 := le (b - 1) b (by omega) hb.1
   omega
 · intro x
   unfold Lib.compact Lib.compactUpTo
   rw [List.mem_map]
   constructor
   · rintro ⟨a, ha, rfl⟩
     rw [List.mem_filter, List.mem_range] at ha
     rw [arr_get ha.1]
     exact List.getElem_mem _
   · intro hx
     obtain ⟨j, hj, rfl⟩ := List.mem_iff_getElem.1 hx
     have key : ∀ m, m ≤ j → (∃ a, a ∈ (List.range s.length).filter (Lib.keeps s.toArray) ∧ s.toArray[a]! = s[j]) ∨ s.toArray[j - m]! = s[j] := by
      intro m
      induction m with
      | zero => intro _; right; rw [Nat.sub_zero, arr_get hj]
      | succ m ih =>
       intro hm
       rcases ih (by omega) with h | h
       · exact .inl h
       · by_cases hk : Lib.keeps s.toArray (j - m) = true
         · exact .inl ⟨j - m, List.mem_filter.2 ⟨List.mem_range.2 (by omega), hk⟩, h⟩
         · right
           unfold Lib.keeps at hk
           rw [decide_eq_true_eq] at hk
           have : s.toArray[j - m]! = s.toArray[j - m - 1]! := by
            by_cases e : s.toArray[j - m]! = s.toArray[j - m - 1]!
            · exact e
            · exact absurd (.inr e) hk
           rw [← h, this]
           congr 1
     rcases key j (Nat.le_refl _) with h | h
     · exact h
     · refine ⟨0, List.mem_filter.2 ⟨List.mem_range.2 (by omega), by unfold Lib.keeps; simp⟩, ?_⟩
       rw [Nat.sub_self] at h
       exact h
theorem setI_asc (l : List Int) : (setI l).Pairwise (fun x y => x < y) := (compact_asc (sortI_le l)).1
theorem setI_mem (l : List Int) (x : Int) : x ∈ setI l ↔ x ∈ l := ((compact_asc (sortI_le l)).2 x).trans (sortI_mem l x)
theorem setI_eq {l r : List Int} (hr : r.Pairwise (fun x y => x < y)) (h : ∀ x, x ∈ l ↔ x ∈ r) : setI l = r := asc_unique (setI_asc l) hr fun x => (setI_mem l x).trans (h x)
theorem compact_len (s : List Int) : (Lib.compact s).length ≤ s.length := by
 unfold Lib.compact Lib.compactUpTo
 rw [List.length_map]
 have := List.length_filter_le (Lib.keeps s.toArray) (List.range s.length)
 simpa using this
theorem setI_len (l : List Int) : (setI l).length ≤ l.length := by
 have := compact_len (sortI l)
 rw [sortI_len] at this
 exact this
theorem sort_own (l : List Int) (base : Nat) (A : Option Addr) (c : Nat) (w : World) (h : OwnI w base A c l) (hl : l.length ≤ 1000000) :
  Calls Tryz.prog 31 #[.slice A l.length c] w fun e w' => e = .returned (.tuple #[]) ∧ OwnI w' base A c (sortI l) ∧ w.grownBy w' (Value.ownBlock (.slice A l.length c)) := by
 rcases Nat.eq_zero_or_pos l.length with h0 | h0
 · obtain rfl := List.length_eq_zero_iff.1 h0
   refine (Tryz.slices_Sort_int_none A c w).mono fun e w' ⟨he, hw⟩ => ?_
   subst hw
   refine ⟨he, ?_, ⟨rfl, rfl, rfl, Nat.le_refl _, fun _ _ _ => rfl⟩⟩
   have : sortI [] = [] := List.length_eq_zero_iff.1 (by rw [sortI_len]; rfl)
   rw [this]
   exact h
 · rcases own_formS h with ⟨hn, _⟩ | ⟨_, g, c', hv, hlc, hg, hb⟩
   · omega
   · simp only [Value.slice.injEq, true_and] at hv
     obtain ⟨rfl, rfl⟩ := hv
     refine (Tryz.slices_Sort_int g 0 c l w (own_holds h) hg (by omega)).mono fun e w' ⟨he, n, os, hw⟩ => ?_
     subst hw
     exact ⟨he, put_own h (sortI l) (sortI_len l) (Nat.le_refl _) (by rw [← sortI_len l, List.take_length]) os (sortI_len l), put_grown _ _ _ _ _⟩
theorem compact_own (l : List Int) (base : Nat) (A : Option Addr) (c : Nat) (w : World) (h : OwnI w base A c l) (hl : l.length ≤ 1000000) :
  Calls Tryz.prog 32 #[.slice A l.length c] w fun e w' => e = .returned (.slice A (Lib.compact l).length c) ∧ OwnI w' base A c (Lib.compact l) ∧ w.grownBy w' (Value.ownBlock (.slice A l.length c)) := by
 rcases Nat.eq_zero_or_pos l.length with h0 | h0
 · obtain rfl := List.length_eq_zero_iff.1 h0
   refine (Tryz.slices_Compact_int_empty A c w).mono fun e w' ⟨he, hw⟩ => ?_
   subst hw
   have : Lib.compact ([] : List Int) = [] := List.length_eq_zero_iff.1 (by have := compact_len []; simpa using this)
   rw [this]
   exact ⟨he, h, ⟨rfl, rfl, rfl, Nat.le_refl _, fun _ _ _ => rfl⟩⟩
 · rcases own_formS h with ⟨hn, _⟩ | ⟨_, g, c', hv, hlc, hg, hb⟩
   · omega
   · simp only [Value.slice.injEq, true_and] at hv
     obtain ⟨rfl, rfl⟩ := hv
     refine (Tryz.slices_Compact_int g 0 c l w (own_holds h) (by omega) hlc).mono fun e w' ⟨he, n, hw⟩ => ?_
     subst hw
     refine ⟨he, ?_, ?_⟩
     · have := put_own (q := n) (n := (Lib.compact l).length) (l' := Lib.compact l) h (Lib.compact l ++ List.replicate (l.length - (Lib.compact l).length) 0) (by have := compact_len l; simp; omega) (compact_len l) (by rw [List.take_left' rfl]) #[] rfl
       rwa [Sort.grow_empty] at this
     · have := put_grown w g n (Lib.compact l ++ List.replicate (l.length - (Lib.compact l).length) 0).toArray #[]
       rwa [Sort.grow_empty] at this
theorem wpList_append_one {w : World} {ops : Array Oper} {rest : List Oper} {o : Oper} {a : Act} {Q : Exit → Act → World → Prop} (hgd : o.guard = none) (s x : Operand) (t e : TypeId) (z : Value) (size bytes : Nat)
  (ho : o.op = .call { callee := .builtin .append, args := #[s, x], argTypes := #[t, t] })
  (ht : Tryz.prog.underlying t = some (.slice e)) (hinfo : (Tryz.prog.info? e).map (fun i => (i.zero, i.size, i.bytes)) = some (some z, size, bytes)) (hzs : z.cells.size = size) (hsz : 0 < size) (hby : bytes ≤ 1000)
  (base : Nat) (v : Value) (n : Nat) (xs cs : List Value) (hs : a.eval s = v) (hown : w.ownsRow base e size v n xs)
  (g c : Nat) (hx : a.eval x = .slice (some ⟨g, 0, none⟩) 1 c) (hl : cs.length = size) (hcell : ∀ j u, cs[j]? = some u → w.cell? ⟨g, j, none⟩ = some u) (h1 : ∀ u ∈ cs, u.oneCell' = true) (h63 : n ≤ 1000000) (hbase : base ≤ w.heap.size)
  (h : ∀ v' w', w'.ownsRow base e size v' (n + 1) (xs ++ cs) → w.grownBy w' v.ownBlock → (v'.ownBlock = v.ownBlock ∨ v'.ownBlock = some w.heap.size) → wpList Tryz.prog ops Q rest (a.put o.dst v') w') : wpList Tryz.prog ops Q (o :: rest) a w := by
 refine wpList_plain hgd fun K hK => ?_
 obtain ⟨i, hi, hz, hsi, hb⟩ := info_parts hinfo
 have hbytes : (n + 1) * bytes ≤ 140737488355328 := by
  have := Nat.mul_le_mul (show n + 1 ≤ 1000001 by omega) hby
  omega
 obtain ⟨v', w', hrun, h2, h3, _, h5⟩ := run_append_own_at (P := Tryz.prog) w base t o.type e i _ size bytes ht hi hz hsi hb hzs hsz v n xs hown ⟨g, 0, none⟩ 1 c cs (by rw [hl, Nat.one_mul]) (fun j u hu => by
   rw [show (⟨g, 0, none⟩ : Addr).add j = ⟨g, j, none⟩ by unfold Addr.add; split <;> simp_all]
   exact hcell j u hu) h1 (by unfold maxLen; omega) hbytes hbase
 unfold Oper.wp execOp
 simp only [ho, resolve, invoke, builtin, Sem.run_bind, Sem.run_pure, Result.andThen_ok, List.map_toArray, List.map_cons, List.map_nil, hs, hx, hrun]
 exact hK _ _ (h v' w' h2 h3 h5)
theorem infI : (Tryz.prog.info? 3).map (fun i => (i.zero, i.size, i.bytes)) = some (some (.int .i64 0), 1, 8) := by kernel_rfl
theorem cell1 {w : World} {g : Nat} {x : Value} (h : w.cell? ⟨g, 0, none⟩ = some x) : ∀ j u, [x][j]? = some u → w.cell? ⟨g, j, none⟩ = some u := fun j u hj => by
 rcases j with _ | j
 · simp only [List.getElem?_cons_zero, Option.some.injEq] at hj
   subst hj; exact h
 · simp at hj
def ballsL (l : List Mt) : List Int := l.flatMap fun m => if m.b = -1 then [m.a] else [m.a, m.b]
theorem ballsL_take {l : List Mt} {k : Nat} {m : Mt} (h : l[k]? = some m) : ballsL (l.take (k + 1)) = ballsL (l.take k) ++ (if m.b = -1 then [m.a] else [m.a, m.b]) := by
 unfold ballsL
 rw [List.take_add_one, h, List.flatMap_append]
 simp
theorem ballsL_len (l : List Mt) : (ballsL l).length ≤ 2 * l.length := by
 unfold ballsL
 induction l with
 | nil => simp
 | cons m l ih =>
  rw [List.flatMap_cons, List.length_append, List.length_cons]
  split <;> simp only [List.length_cons, List.length_nil] <;> omega
theorem owni_snoc {w : World} {base : Nat} {v : Value} {l : List Int} {x : Int} (h : w.ownsRow base 3 1 v (l.length + 1) (l.map (Value.int .i64) ++ [.int .i64 x])) : ∃ A c, v = .slice A (l ++ [x]).length c ∧ OwnI w base A c (l ++ [x]) := by
 obtain ⟨A, c, rfl⟩ := own_slice h
 exact ⟨A, c, by simp, by unfold OwnI; rw [List.length_append, List.map_append]; exact h⟩
theorem OwnI.fresh {w : World} {base : Nat} {A : Option Addr} {c : Nat} {l : List Int} (h : OwnI w base A c l) : ∀ k, Value.ownBlock (.slice A l.length c) = some k → base ≤ k := fun k hk => (World.ownsRow.lt h k hk).1
theorem OwnI.alloc {w : World} {base : Nat} {A : Option Addr} {c : Nat} {l : List Int} (h : OwnI w base A c l) (o : Obj) : OwnI (w.alloc o) base A c l := World.ownsRow.alloc h o
theorem OwnI.low {W : World} {base : Nat} {A : Option Addr} {c : Nat} {l : List Int} (h : OwnI W base A c l) {p : Addr} (hp : p.block < base) (u : Value) : OwnI (W.setCell p u) base A c l := ownr_low h hp u
theorem OwnI.bel {W W' : World} {base B : Nat} {A : Option Addr} {c : Nat} {l : List Int} (h : OwnI W base A c l) (hb : Below B W W') (hB : W.heap.size ≤ B) : OwnI W' base A c l := own_below h hb hB
theorem OwnI.weaker {W : World} {base base' : Nat} {A : Option Addr} {c : Nat} {l : List Int} (h : OwnI W base A c l) (hb : base' ≤ base) : OwnI W base' A c l := ownr_weaker h hb
theorem OwnI.kept {W W' : World} {base : Nat} {A : Option Addr} {c : Nat} {l : List Int} {row : Option Nat} (h : OwnI W base A c l) (hg : W.grownBy W' row) (hne : Value.ownBlock (.slice A l.length c) = none ∨ Value.ownBlock (.slice A l.length c) ≠ row) : OwnI W' base A c l := World.ownsRow.kept h hg hne
def IOut (l : List Int) (w : World) (e : Ending) (w' : World) : Prop := Below w.heap.size w w' ∧ ∃ A c, e = .returned (.slice A l.length c) ∧ OwnI w' w.heap.size A c l
set_option maxRecDepth 100000 in
set_option maxHeartbeats 8000000 in
theorem balls_any (l : List Mt) (A : Option Addr) (c : Nat) (w : World) (hV : MAt w A l) (hl : l.length ≤ 1000) :
  Calls Tryz.prog 11 #[.slice A l.length c] w (IOut (setI (ballsL l)) w) := by
 have HV := hQ0 hV
 have hlen := ballsL_len l
 clear hV
 go_enter Tryz.func11, Tryz.ntmps11; (try simp only [List.append_eq, List.cons_append, List.nil_append])
 go_wp2_with fail
 go_loopw [3, 8] (fun t3 t8 wr => ∃ (k : Nat) (B : Option Addr) (d : Nat), k ≤ l.length ∧ t8 = .int .i64 k ∧ t3 = .slice B (ballsL (l.take k)).length d ∧ OwnI wr w.heap.size B d (ballsL (l.take k)) ∧ Below w.heap.size w wr) (fun _ t8 _ => l.length - (intOf t8).toNat)
 case atStart => exact ⟨0, none, 0, by omega, rfl, rfl, OwnI.nil _ _, Below.refl _ _⟩
 case round =>
  obtain ⟨k, B, d, hk, rfl, rfl, hO, hb_wr⟩ := hrel
  have hz_wr := hb_wr.size
  have HB := hQ0 hb_wr
  have HO := hQ0 hO
  have i1 : (0 : Int) ≤ (k : Int) := by omega
  have hlk : (ballsL (l.take k)).length ≤ 2000 := by have := ballsL_len (l.take k); rw [List.length_take] at this; omega
  by_cases hlt : k < l.length
  · obtain ⟨m, hx⟩ : ∃ x, l[k]? = some x := ⟨l[k], by simp⟩
    obtain ⟨g, o, rfl, hg, a0, a1, a2, a3, a4, a5, a6, a7, a8, a9⟩ := (HV.out.below HB.out (Nat.le_refl _)) k _ hx
    have HT := hQ0 (ballsL_take hx)
    generalize ballsL (l.take k) = L at *
    have HX := hQ0 hx
    have i2 : (k : Int) < (l.length : Int) := by omega
    clear hb_wr hx hO
    obtain ⟨ma, mb, n1, n2, x1, x2, y1, y2, e, f⟩ := m
    simp only at a0 a1 a2 a3 a4 a5 a6 a7 a8 a9
    by_cases hm : mb = -1
    · subst hm
      go_wp2_with (at_builtin; go_must (refine wpList_append_one rfl _ _ 33 3 _ 1 8 rfl Tryz.underlying33 infI rfl (by decide) (by decide) w.heap.size _ L.length (L.map (Value.int .i64)) [.int .i64 ma] rfl (show OwnI _ w.heap.size B d L by ((repeat (first | (with_reducible exact HO.out) | (with_reducible refine OwnI.low ?_ ?_ _) | (with_reducible refine OwnI.alloc ?_ _))) <;> first | omega | (simp <;> omega))) _ 1 rfl rfl (cell1 (by go_simp)) (by simp [Value.oneCell']) (by omega) (by simp; omega) ?_))
      intro v1 w1 hown1 hg1 _
      obtain ⟨B1, d1, rfl, ho1⟩ := owni_snoc hown1
      have HO1 := hQ0 ho1
      have HB1 := hQ0 ((show Below w.heap.size w _ from (HB.out.alloc hz_wr _).alloc (by simp; omega) _).grown hg1 (by simp; omega) (HO.out.fresh))
      have hz1 := hg1.size
      simp at hz1
      have hcb := hg1.cell (a := ⟨wr.heap.size, 1, none⟩) (v := .int .i64 (-1)) (by go_simp) (fun e => by have := (World.ownsRow.lt HO.out _ e.symm).2; simp at this)
      clear hg1 hown1 ho1
      go_wp2_with fail
      go_roundw
      case rel => exact ⟨k + 1, B1, d1, by omega, by go_num, by rw [HT.out, if_pos trivial], by rw [HT.out, if_pos trivial]; exact HO1.out, HB1.out⟩
      case measure => simp [intOf]; omega
    · have hmb : (mb == -1) = false := by rw [beq_eq_false_iff_ne]; exact hm
      go_wp2_with (at_builtin; go_must (refine wpList_append_one rfl _ _ 33 3 _ 1 8 rfl Tryz.underlying33 infI rfl (by decide) (by decide) w.heap.size _ L.length (L.map (Value.int .i64)) [.int .i64 ma] rfl (show OwnI _ w.heap.size B d L by ((repeat (first | (with_reducible exact HO.out) | (with_reducible refine OwnI.low ?_ ?_ _) | (with_reducible refine OwnI.alloc ?_ _))) <;> first | omega | (simp <;> omega))) _ 1 rfl rfl (cell1 (by go_simp)) (by simp [Value.oneCell']) (by omega) (by simp; omega) ?_))
      intro v1 w1 hown1 hg1 _
      obtain ⟨B1, d1, rfl, ho1⟩ := owni_snoc hown1
      have HO1 := hQ0 ho1
      have HB1 := hQ0 ((show Below w.heap.size w _ from (HB.out.alloc hz_wr _).alloc (by simp; omega) _).grown hg1 (by simp; omega) (HO.out.fresh))
      have hz1 := hg1.size
      simp at hz1
      have hzz := HB1.out.size
      have hcb := hg1.cell (a := ⟨wr.heap.size, 1, none⟩) (v := .int .i64 mb) (by go_simp) (fun e => by have := (World.ownsRow.lt HO.out _ e.symm).2; simp at this)
      clear hg1 hown1 ho1
      go_wp2_with (at_builtin; go_must (refine wpList_append_one rfl _ _ 33 3 _ 1 8 rfl Tryz.underlying33 infI rfl (by decide) (by decide) w.heap.size _ (L ++ [ma]).length ((L ++ [ma]).map (Value.int .i64)) [.int .i64 mb] rfl (show OwnI _ w.heap.size B1 d1 (L ++ [ma]) by ((repeat (first | (with_reducible exact HO1.out) | (with_reducible refine OwnI.low ?_ ?_ _) | (with_reducible refine OwnI.alloc ?_ _))) <;> first | omega | (simp <;> omega))) _ 1 rfl rfl (cell1 (by go_simp)) (by simp [Value.oneCell']) (by simp; omega) (by simp; omega) ?_))
      intro v2 w2 hown2 hg2 _
      obtain ⟨B2, d2, rfl, ho2⟩ := owni_snoc (l := L ++ [ma]) (show w2.ownsRow w.heap.size 3 1 v2 ((L ++ [ma]).length + 1) ((L ++ [ma]).map (Value.int .i64) ++ [.int .i64 mb]) by simpa using hown2)
      have HO2 := hQ0 ho2
      have HB2 := hQ0 ((show Below w.heap.size w _ from HB1.out.alloc HB1.out.size _).grown hg2 (by simp; omega) (by have := HO1.out.fresh; rwa [List.length_append] at this))
      have e2 : L ++ [ma] ++ [mb] = L ++ (if mb = -1 then [ma] else [ma, mb]) := by rw [if_neg hm, List.append_assoc]; rfl
      rw [e2] at HO2
      rw [e2]
      clear hg2 hown2 ho2
      go_wp2_with fail
      go_roundw
      case rel => exact ⟨k + 1, B2, d2, by omega, by go_num, by rw [HT.out], by rw [HT.out]; exact HO2.out, HB2.out⟩
      case measure => simp [intOf]; omega
  · obtain rfl : k = l.length := by omega
    rw [List.take_length] at *
    have ks := fun W hW => sort_own (ballsL l) w.heap.size B d W hW (by omega)
    have kc := fun W hW => compact_own (sortI (ballsL l)) w.heap.size B d W hW (by rw [sortI_len]; omega)
    rw [sortI_len] at kc
    have KS := hQ0 ks
    have KC := hQ0 kc
    clear ks kc hb_wr hO hlen
    go_wp2_with fail
    (go_at_call 31; refine (KS.out _ HO.out).mono ?_; rintro e w1 ⟨rfl, ho1, hg1⟩)
    have HB1 := hQ0 (HB.out.grown hg1 (by omega) (HO.out.fresh))
    have HO1 := hQ0 ho1
    clear hg1 ho1
    go_wp2_with fail
    (go_at_call 32; refine (KC.out _ HO1.out).mono ?_; rintro e w2 ⟨rfl, ho2, hg2⟩)
    have HB2 := hQ0 (HB1.out.grown hg2 HB1.out.size (by have := HO.out.fresh; exact this))
    have HO2 := hQ0 ho2
    clear hg2 ho2
    go_wp2_with fail
    go_ret
    exact ⟨HB2.out, B, d, rfl, HO2.out⟩
def U32Keep (w w' : World) : Prop := w.heap.size ≤ w'.heap.size ∧ ∀ p x, w.cell? p = some (.int .u32 x) → w'.cell? p = some (.int .u32 x)
theorem LAt.u32 {w w' : World} {A : Option Addr} {l : List Int} (h : LAt w A l) (hk : U32Keep w w') : LAt w' A l := fun k x hx => by
 obtain ⟨g, o, e, hg, hc⟩ := h k x hx
 exact ⟨g, o, e, Nat.lt_of_lt_of_le hg hk.1, hk.2 _ _ hc⟩
theorem IsC.u32 {w w' : World} {v : Value} {z : Int} (h : IsC w v z) (hk : U32Keep w w') : IsC w' v z := by
 obtain ⟨A, c, h1, h2, h3⟩ := h
 exact ⟨A, c, h1, h2, h3.u32 hk⟩
theorem RAt.u32 {w w' : World} {v : Value} {x y d : Int} (h : RAt w v x y d) (hk : U32Keep w w') : RAt w' v x y d := by
 obtain ⟨s1, A1, n1, c1, s2, A2, n2, c2, s3, A3, n3, c3, e, h1, h2, h3⟩ := h
 exact ⟨s1, A1, n1, c1, s2, A2, n2, c2, s3, A3, n3, c3, e, h1.u32 hk, h2.u32 hk, h3.u32 hk⟩
theorem U32Keep.block {w w' : World} {g : Nat} {cur : Array Value} {e : TypeId} (hs : w.heap.size ≤ w'.heap.size) (hg : w.heap[g]? = some (.cells cur e (0, 0))) (hu : ∀ u ∈ cur.toList, ∀ x, u ≠ .int .u32 x) (hb : ∀ k, k < w.heap.size → k ≠ g → w'.heap[k]? = w.heap[k]?) : U32Keep w w' :=
 ⟨hs, fun p x hc => by
  have hp := World.block_lt_of_cell? w p hc
  by_cases e' : p.block = g
  · exfalso
    obtain ⟨b, o, sp⟩ := p
    simp only at e' hp
    subst e'
    have hsp : sp = none := World.cell?_spot hc
    subst hsp
    rw [cell_of_row w b o cur e (0, 0) hg] at hc
    exact hu _ (by simpa using Array.mem_of_getElem? hc) x rfl
  · rw [World.cell?_of_block (hb _ hp e')]; exact hc⟩
def OwnU (w : World) (base : Nat) (e : TypeId) (size : Nat) (v : Value) (n : Nat) (xs : List Value) : Prop := xs.length = n * size ∧
  ((v = .slice none 0 0 ∧ n = 0) ∨ ∃ g cap cur, v = .slice (some ⟨g, 0, none⟩) n cap ∧ base ≤ g ∧ w.heap[g]? = some (.cells cur e (0, 0)) ∧ n ≤ cap ∧ cap ≤ maxLen ∧ cur.size = cap * size ∧ cur.toList.take (n * size) = xs ∧ ∀ u ∈ cur.toList, ∀ x, u ≠ .int .u32 x)
theorem OwnU.own {w : World} {base : Nat} {e : TypeId} {size : Nat} {v : Value} {n : Nat} {xs : List Value} (h : OwnU w base e size v n xs) : w.ownsRow base e size v n xs := by
 refine ⟨h.1, ?_⟩
 rcases h.2 with h | ⟨g, cap, cur, h1, h2, h3, h4, h5, h6, h7, _⟩
 · exact .inl h
 · exact .inr ⟨g, cap, cur, h1, h2, h3, h4, h5, h6, h7⟩
theorem OwnU.nil (w : World) (base : Nat) (e : TypeId) (size : Nat) : OwnU w base e size (.slice none 0 0) 0 [] := ⟨by simp, .inl ⟨rfl, rfl⟩⟩
theorem OwnU.below {w w' : World} {base B : Nat} {e : TypeId} {size : Nat} {v : Value} {n : Nat} {xs : List Value} (h : OwnU w base e size v n xs) (hb : Below B w w') (hB : w.heap.size ≤ B) : OwnU w' base e size v n xs := by
 refine ⟨h.1, ?_⟩
 rcases h.2 with h | ⟨g, cap, cur, h1, h2, h3, h4⟩
 · exact .inl h
 · have hg := (Array.getElem?_eq_some_iff.1 h3).1
   exact .inr ⟨g, cap, cur, h1, h2, by rw [hb.block g (by omega)]; exact h3, h4⟩
theorem run_append_u (w : World) (base : Nat) (t ty e : TypeId) (z : Value) (size bytes : Nat) (ht : Tryz.prog.underlying t = some (.slice e)) (hinfo : (Tryz.prog.info? e).map (fun i => (i.zero, i.size, i.bytes)) = some (some z, size, bytes)) (hzs : z.cells.size = size) (hzu : ∀ u ∈ z.cells.toList, ∀ x, u ≠ .int .u32 x) (hsz : 0 < size)
  (v : Value) (n : Nat) (xs : List Value) (hown : OwnU w base e size v n xs) (a : Addr) (c : Nat) (news : List Value) (hl : news.length = size) (hnews : ∀ j u, news[j]? = some u → w.cell? (a.add j) = some u) (h1 : ∀ u ∈ news, u.oneCell' = true) (hu : ∀ u ∈ news, ∀ x, u ≠ .int .u32 x)
  (h63 : n + 1 ≤ maxLen) (hbytes : (n + 1) * bytes ≤ 140737488355328) (hbase : base ≤ w.heap.size) :
  ∃ v' w', (Builtin.append_ #[t, t] ty #[v, .slice (some a) 1 c]).run Tryz.prog w = .ok v' w' ∧ OwnU w' base e size v' (n + 1) (xs ++ news) ∧ w.grownBy w' v.ownBlock ∧ U32Keep w w' := by
 obtain ⟨i, hi, hz, hsize, hby⟩ := info_parts hinfo
 subst hsize
 subst hby
 have hsmall : n + 1 ≤ 9223372036854775807 := by simp only [maxLen] at h63; omega
 have hl' : news.length = 1 * i.size := by rw [hl, Nat.one_mul]
 have hlen : (xs ++ news).length = (n + 1) * i.size := by rw [List.length_append, hown.1, hl, Nat.add_mul, Nat.one_mul]
 have hzc : ∀ m, ∀ u ∈ (Builtin.zeroCells z.cells m).toList, ∀ x, u ≠ .int .u32 x := fun m u hm x => by
  unfold Builtin.zeroCells at hm
  rw [Array.mem_toList_iff, Array.mem_map] at hm
  obtain ⟨j, _, rfl⟩ := hm
  have hpos : 0 < z.cells.size := by omega
  have hlt := Nat.mod_lt j hpos
  rw [getElem!_pos z.cells _ hlt]
  exact hzu _ (by simp) x
 have hkw : ∀ o, U32Keep w (w.drew.alloc o) := fun o => ⟨by simp, fun p x hc => by
  have hp := World.block_lt_of_cell? w p hc
  rw [World.cell?_of_block (w := w) (heap_alloc_old w.drew o hp)]
  exact hc⟩
 have grown : ∀ (old : Nat), old < n + 1 → (∀ u ∈ xs, ∀ x, u ≠ .int .u32 x) → ∀ (row : Option Nat),
   OwnU (w.drew.alloc (.cells (xs.toArray ++ news.toArray ++ Builtin.zeroCells z.cells (grownCap w (n + 1) old e - (n + 1))) e)) base e i.size
    (.slice (some ⟨w.heap.size, 0, none⟩) (n + 1) (grownCap w (n + 1) old e)) (n + 1) (xs ++ news) ∧
   w.grownBy (w.drew.alloc (.cells (xs.toArray ++ news.toArray ++ Builtin.zeroCells z.cells (grownCap w (n + 1) old e - (n + 1))) e)) row := by
  intro old ho hxu row
  have hge := grownCap_ge w (n + 1) old e
  have hcm : grownCap w (n + 1) old e ≤ maxLen := grownCap_le_maxLen w (n + 1) old e h63
  refine ⟨⟨hlen, .inr ⟨w.heap.size, _, _, rfl, hbase, heap_alloc_new w.drew _, hge, hcm, ?_, ?_, ?_⟩⟩, ⟨rfl, rfl, rfl, by simp, fun k hk _ => heap_alloc_old w.drew _ hk⟩⟩
  · simp only [Array.size_append, List.size_toArray, size_zeroCells, hzs, hown.1, hl]
    have e1 : n * i.size + i.size = (n + 1) * i.size := (Nat.succ_mul n i.size).symm
    rw [e1, ← Nat.add_mul, Nat.add_sub_cancel' hge]
  · simp only [Array.toList_append, List.append_assoc]
    rw [← List.append_assoc, ← hlen]
    exact List.take_left
  · intro u hm x
    simp only [Array.toList_append, List.mem_append] at hm
    rcases hm with (hm | hm) | hm
    · exact hxu u (by simpa using hm) x
    · exact hu u (by simpa using hm) x
    · exact hzc _ u hm x
 rcases hown.2 with ⟨rfl, rfl⟩ | ⟨g, cap, cur, rfl, hbg, hg, hnc, hcm, hcs, htake, hcu⟩
 · have hx : xs = [] := List.eq_nil_of_length_eq_zero (by simpa using hown.1)
   subst hx
   have hr := run_append_nil (P := Tryz.prog) w t ty e i z ht hi hz a 1 c news hl' hnews (by omega) (by omega) (by have hb := hbytes; simp only [Nat.zero_add] at hb; omega)
   have hgr := grown 0 (by omega) (by simp) (Value.ownBlock (.slice none 0 0))
   simp only [Nat.zero_add, List.nil_append, Array.empty_append] at hgr ⊢
   exact ⟨_, _, hr, hgr.1, hgr.2, hkw _⟩
 · by_cases hroom : n + 1 ≤ cap
   · have hfit : n * i.size + news.length ≤ cur.size := by
      have := Nat.mul_le_mul_right i.size hroom
      rw [Nat.add_mul, Nat.one_mul] at this
      rw [hl, hcs]; exact this
     have hr := run_append_room (P := Tryz.prog) w t ty e i ht hi g n cap cur hg a 1 c news hl' hnews h1 hroom hfit
     have hgb : w.grownBy (w.setRow g (cur.toList.take (n * i.size) ++ news ++ cur.toList.drop (n * i.size + news.length)).toArray) (Value.ownBlock (.slice (some ⟨g, 0, none⟩) n cap)) := ⟨rfl, rfl, rfl, by simp, fun k _ hk => setRow_other w g k _ (fun e => hk (by simp [Value.ownBlock, e]))⟩
     refine ⟨_, _, hr, ⟨hlen, .inr ⟨g, cap, _, rfl, hbg, setRow_heap w g cur _ e _ hg, hroom, hcm, ?_, ?_, ?_⟩⟩, hgb, U32Keep.block hgb.size hg hcu (fun k hk hne => hgb.block k hk (by simp [Value.ownBlock, hne]))⟩
     · simp only [List.size_toArray, List.length_append, List.length_take, List.length_drop, Array.length_toList]
       omega
     · rw [htake, ← hlen]
       exact List.take_left
     · intro u hm x
       simp only [List.mem_append] at hm
       rcases hm with (hm | hm) | hm
       · exact hcu u (List.mem_of_mem_take hm) x
       · exact hu u hm x
       · exact hcu u (List.mem_of_mem_drop hm) x
   · have holds : ∀ j u, xs[j]? = some u → w.cell? ((⟨g, 0, none⟩ : Addr).add j) = some u := hown.own.cells (g := g) rfl
     have hr := run_append_grow (P := Tryz.prog) w t ty e i z ht hi hz ⟨g, 0, none⟩ n cap xs hown.1 holds a 1 c news hl' hnews (by omega) (by omega) (growslice_fits (by omega) hbytes)
     have hgr := grown cap (by omega) (fun u hm x => hcu u (by rw [← htake] at hm; exact List.mem_of_mem_take hm) x) (Value.ownBlock (.slice (some ⟨g, 0, none⟩) n cap))
     exact ⟨_, _, hr, hgr.1, hgr.2, hkw _⟩
theorem wpList_append_u {w : World} {ops : Array Oper} {rest : List Oper} {o : Oper} {a : Act} {Q : Exit → Act → World → Prop} (hgd : o.guard = none) (s x : Operand) (t e : TypeId) (z : Value) (size bytes : Nat)
  (ho : o.op = .call { callee := .builtin .append, args := #[s, x], argTypes := #[t, t] })
  (ht : Tryz.prog.underlying t = some (.slice e)) (hinfo : (Tryz.prog.info? e).map (fun i => (i.zero, i.size, i.bytes)) = some (some z, size, bytes)) (hzs : z.cells.size = size) (hzu : ∀ u ∈ z.cells.toList, ∀ x, u ≠ .int .u32 x) (hsz : 0 < size) (hby : bytes ≤ 1000)
  (base : Nat) (v : Value) (n : Nat) (xs cs : List Value) (hs : a.eval s = v) (hown : OwnU w base e size v n xs)
  (g c : Nat) (hx : a.eval x = .slice (some ⟨g, 0, none⟩) 1 c) (hl : cs.length = size) (hcell : ∀ j u, cs[j]? = some u → w.cell? ⟨g, j, none⟩ = some u) (h1 : ∀ u ∈ cs, u.oneCell' = true) (hu : ∀ u ∈ cs, ∀ x, u ≠ .int .u32 x) (h63 : n ≤ 1000000) (hbase : base ≤ w.heap.size)
  (h : ∀ v' w', OwnU w' base e size v' (n + 1) (xs ++ cs) → w.grownBy w' v.ownBlock → U32Keep w w' → wpList Tryz.prog ops Q rest (a.put o.dst v') w') : wpList Tryz.prog ops Q (o :: rest) a w := by
 refine wpList_plain hgd fun K hK => ?_
 have hbytes : (n + 1) * bytes ≤ 140737488355328 := by
  have := Nat.mul_le_mul (show n + 1 ≤ 1000001 by omega) hby
  omega
 obtain ⟨v', w', hrun, h2, h3, h5⟩ := run_append_u w base t o.type e z size bytes ht hinfo hzs hzu hsz v n xs hown ⟨g, 0, none⟩ c cs hl (fun j u hu => by
   rw [show (⟨g, 0, none⟩ : Addr).add j = ⟨g, j, none⟩ by unfold Addr.add; split <;> simp_all]
   exact hcell j u hu) h1 hu (by unfold maxLen; omega) hbytes hbase
 unfold Oper.wp execOp
 simp only [ho, resolve, invoke, builtin, Sem.run_bind, Sem.run_pure, Result.andThen_ok, List.map_toArray, List.map_cons, List.map_nil, hs, hx, hrun]
 exact hK _ _ (h v' w' h2 h3 h5)
theorem infR : (Tryz.prog.info? 46).map (fun i => (i.zero, i.size, i.bytes)) = some (some (.agg #[.bool false, .slice none 0 0, .bool false, .slice none 0 0, .bool false, .slice none 0 0]), 6, 96) := by kernel_rfl
def RsOwn (w : World) (base : Nat) (A : Option Addr) (c : Nat) (l : List (Int × Int × Int)) (xs : List Value) : Prop := OwnU w base 46 6 (.slice A l.length c) l.length xs ∧
  ∀ k r, l[k]? = some r → ∃ s1 A1 n1 c1 s2 A2 n2 c2 s3 A3 n3 c3, xs[k * 6]? = some (Value.bool s1) ∧ xs[k * 6 + 1]? = some (Value.slice A1 n1 c1) ∧ xs[k * 6 + 2]? = some (Value.bool s2) ∧ xs[k * 6 + 3]? = some (Value.slice A2 n2 c2) ∧ xs[k * 6 + 4]? = some (Value.bool s3) ∧ xs[k * 6 + 5]? = some (Value.slice A3 n3 c3) ∧
    RAt w (.agg #[.bool s1, .slice A1 n1 c1, .bool s2, .slice A2 n2 c2, .bool s3, .slice A3 n3 c3]) r.1 r.2.1 r.2.2
theorem RsOwn.nil (w : World) (base : Nat) : RsOwn w base none 0 [] [] := ⟨OwnU.nil _ _ _ _, fun k r h => by simp at h⟩
theorem RsOwn.below {w w' : World} {base : Nat} {A : Option Addr} {c : Nat} {l : List (Int × Int × Int)} {xs : List Value} (h : RsOwn w base A c l xs) (hb : Below w.heap.size w w') : RsOwn w' base A c l xs :=
 ⟨h.1.below hb (Nat.le_refl _), fun k r hk => by
  obtain ⟨s1, A1, n1, c1, s2, A2, n2, c2, s3, A3, n3, c3, e0, e1, e2, e3, e4, e5, hR⟩ := h.2 k r hk
  exact ⟨s1, A1, n1, c1, s2, A2, n2, c2, s3, A3, n3, c3, e0, e1, e2, e3, e4, e5, hR.below hb⟩⟩
theorem RsOwn.at {w : World} {base : Nat} {A : Option Addr} {c : Nat} {l : List (Int × Int × Int)} {xs : List Value} (h : RsOwn w base A c l xs) : RsAt w A l := fun k r hk => by
 obtain ⟨s1, A1, n1, c1, s2, A2, n2, c2, s3, A3, n3, c3, e0, e1, e2, e3, e4, e5, hR⟩ := h.2 k r hk
 have hk' := (List.getElem?_eq_some_iff.1 hk).1
 have ho := h.1.own
 rcases own_formS ho with ⟨hn, _⟩ | ⟨_, g, c', hv, _, hg, _⟩
 · omega
 · simp only [Value.slice.injEq, true_and] at hv
   obtain ⟨rfl, rfl⟩ := hv
   refine ⟨g, 0, rfl, hg, s1, A1, n1, c1, s2, A2, n2, c2, s3, A3, n3, c3, ?_, ?_, ?_, ?_, ?_, ?_, hR⟩
   · rw [Nat.zero_add, World.ownsRow.cellAt ho _ (by omega)]; exact e0
   · rw [Nat.zero_add, World.ownsRow.cellAt ho _ (by omega)]; exact e1
   · rw [Nat.zero_add, World.ownsRow.cellAt ho _ (by omega)]; exact e2
   · rw [Nat.zero_add, World.ownsRow.cellAt ho _ (by omega)]; exact e3
   · rw [Nat.zero_add, World.ownsRow.cellAt ho _ (by omega)]; exact e4
   · rw [Nat.zero_add, World.ownsRow.cellAt ho _ (by omega)]; exact e5
theorem RsOwn.snoc {w w' : World} {base : Nat} {A : Option Addr} {c : Nat} {l : List (Int × Int × Int)} {xs : List Value} {v' : Value} {r : Int × Int × Int} {s1 : Bool} {A1 : Option Addr} {n1 c1 : Nat} {s2 : Bool} {A2 : Option Addr} {n2 c2 : Nat} {s3 : Bool} {A3 : Option Addr} {n3 c3 : Nat}
  (h : RsOwn w base A c l xs) (hR : RAt w (.agg #[.bool s1, .slice A1 n1 c1, .bool s2, .slice A2 n2 c2, .bool s3, .slice A3 n3 c3]) r.1 r.2.1 r.2.2)
  (hw : OwnU w' base 46 6 v' (l.length + 1) (xs ++ [.bool s1, .slice A1 n1 c1, .bool s2, .slice A2 n2 c2, .bool s3, .slice A3 n3 c3])) (hk : U32Keep w w') :
  ∃ A' c', v' = .slice A' (l ++ [r]).length c' ∧ RsOwn w' base A' c' (l ++ [r]) (xs ++ [.bool s1, .slice A1 n1 c1, .bool s2, .slice A2 n2 c2, .bool s3, .slice A3 n3 c3]) := by
 obtain ⟨A', c', rfl⟩ := own_slice hw.own
 have hxl : xs.length = l.length * 6 := h.1.1
 refine ⟨A', c', by simp, by simpa using hw, fun k q hq => ?_⟩
 rcases Nat.lt_or_ge k l.length with hlt | hge
 · rw [List.getElem?_append_left hlt] at hq
   obtain ⟨s1, A1, n1, c1, s2, A2, n2, c2, s3, A3, n3, c3, e0, e1, e2, e3, e4, e5, hR'⟩ := h.2 k q hq
   refine ⟨s1, A1, n1, c1, s2, A2, n2, c2, s3, A3, n3, c3, ?_, ?_, ?_, ?_, ?_, ?_, hR'.u32 hk⟩ <;> (rw [List.getElem?_append_left (by omega)]; assumption)
 · rw [List.getElem?_append_right hge] at hq
   have hk0 : k = l.length := by
    have := (List.getElem?_eq_some_iff.1 hq).1
    simp at this; omega
   subst hk0
   rw [Nat.sub_self] at hq
   simp only [List.getElem?_cons_zero, Option.some.injEq] at hq
   subst hq
   refine ⟨s1, A1, n1, c1, s2, A2, n2, c2, s3, A3, n3, c3, ?_, ?_, ?_, ?_, ?_, ?_, hR.u32 hk⟩
   · rw [List.getElem?_append_right (by omega), hxl, Nat.sub_self]; rfl
   · rw [List.getElem?_append_right (by omega), hxl, show l.length * 6 + 1 - l.length * 6 = 1 by omega]; rfl
   · rw [List.getElem?_append_right (by omega), hxl, show l.length * 6 + 2 - l.length * 6 = 2 by omega]; rfl
   · rw [List.getElem?_append_right (by omega), hxl, show l.length * 6 + 3 - l.length * 6 = 3 by omega]; rfl
   · rw [List.getElem?_append_right (by omega), hxl, show l.length * 6 + 4 - l.length * 6 = 4 by omega]; rfl
   · rw [List.getElem?_append_right (by omega), hxl, show l.length * 6 + 5 - l.length * 6 = 5 by omega]; rfl
def surfM (m : Mt) (v : List V2) : V2 := if m.b = -1 then (m.w1, m.w2) else v.getD m.b.toNat (0, 0)
set_option maxRecDepth 100000 in
set_option maxHeartbeats 4000000 in
theorem surface_any (m : Mt) (v : List V2) (A : Option Addr) (c : Nat) (w : World) (hV : VAt w A v) (h1 : -1 ≤ m.b) (h2 : m.b < v.length) :
  Calls Tryz.prog 22 #[m.v, .slice A v.length c] w fun e w' => e = .returned (.agg #[.int .i64 (surfM m v).1, .int .i64 (surfM m v).2]) ∧ Below w.heap.size w w' := by
 obtain ⟨a, b, n1, n2, x1, x2, y1, y2, e, g⟩ := m
 simp only [Mt.v] at *
 by_cases h : b = -1
 · have hs : surfM ⟨a, b, n1, n2, x1, x2, y1, y2, e, g⟩ v = (x1, x2) := by unfold surfM; rw [if_pos h]
   rw [hs]
   subst h
   clear hs hV
   go_enter Tryz.func22, Tryz.ntmps22; (try simp only [List.append_eq, List.cons_append, List.nil_append])
   go_wp2_with fail
   refine bodyPost_ret (v := .agg #[.int .i64 x1, .int .i64 x2]) (by (try simp only [results, Tryz.results22]); (try go_simp)) rfl ⟨?_, ?_⟩
   · rfl
   · ((with_reducible (repeat (first | exact bR _ _ | apply bS | apply bA | apply bD | refine bT ?_ (by assumption) ?_ | refine bO (by assumption) ?_ ?_))) <;> (first | omega | (simp <;> omega)))
 · obtain ⟨k, rfl⟩ : ∃ k : Nat, b = (k : Int) := ⟨b.toNat, by omega⟩
   obtain ⟨⟨p, q⟩, hx⟩ : ∃ x, v[k]? = some x := ⟨v[k]'(by omega), by simp⟩
   have hs : surfM ⟨a, k, n1, n2, x1, x2, y1, y2, e, g⟩ v = (p, q) := by unfold surfM; rw [if_neg h]; simp [hx]
   rw [hs]
   obtain ⟨g', o, rfl, hg, c0, c1⟩ := hV k _ hx
   simp only at c0 c1
   have hb1 : ((k : Int) == -1) = false := by rw [beq_eq_false_iff_ne]; exact h
   have i1 : (0 : Int) ≤ (k : Int) := by omega
   have i2 : (k : Int) < (v.length : Int) := h2
   clear hs hV hx h h1 h2
   go_enter Tryz.func22, Tryz.ntmps22; (try simp only [List.append_eq, List.cons_append, List.nil_append])
   go_wp2_with fail
   refine bodyPost_ret (v := .agg #[.int .i64 p, .int .i64 q]) (by (try simp only [results, Tryz.results22]); (try go_simp)) rfl ⟨?_, ?_⟩
   · rfl
   · ((with_reducible (repeat (first | exact bR _ _ | apply bS | apply bA | apply bD | refine bT ?_ (by assumption) ?_ | refine bO (by assumption) ?_ ?_))) <;> (first | omega | (simp <;> omega)))
def clampR (x : Int) : Int := min (max x (-65536)) 65536
set_option maxHeartbeats 4000000 in
theorem limited_any (x y : Int) (w : World) :
  Calls Tryz.prog 26 #[.agg #[.int .i64 x, .int .i64 y]] w fun e w' => e = .returned (.agg #[.int .i64 (clampR x), .int .i64 (clampR y)]) ∧ Below w.heap.size w w' := by
 unfold clampR
 go_enter Tryz.func26, Tryz.ntmps26; (try simp only [List.append_eq, List.cons_append, List.nil_append])
 go_wp2_with fail
 refine bodyPost_ret (v := .agg #[.int .i64 (min (max x (-65536)) 65536), .int .i64 (min (max y (-65536)) 65536)]) (by (try simp only [results, Tryz.results26]); (try go_simp)) rfl ⟨?_, ?_⟩
 · rfl
 · ((with_reducible (repeat (first | exact bR _ _ | apply bS | apply bA | apply bD | refine bT ?_ (by assumption) ?_ | refine bO (by assumption) ?_ ?_))) <;> (first | omega | (simp <;> omega)))
def flatM (l : List Mt) : List Value := l.flatMap Mt.cells
theorem flatM_get {l : List Mt} {k j : Nat} {m : Mt} (h : l[k]? = some m) (hj : j < 10) : (flatM l)[k * 10 + j]? = m.cells[j]? := by
 unfold flatM
 induction l generalizing k with
 | nil => simp at h
 | cons x l ih =>
  rw [List.flatMap_cons]
  have hl : x.cells.length = 10 := rfl
  cases k with
  | zero =>
   simp only [List.getElem?_cons_zero, Option.some.injEq] at h
   subst h
   rw [List.getElem?_append_left (by omega)]
   congr 1
   omega
  | succ k =>
   simp only [List.getElem?_cons_succ] at h
   rw [List.getElem?_append_right (by omega), hl, show (k + 1) * 10 + j - 10 = k * 10 + j by omega]
   exact ih h
def OwnM (w : World) (base : Nat) (A : Option Addr) (c : Nat) (l : List Mt) : Prop := w.ownsRow base 40 10 (.slice A l.length c) l.length (flatM l)
theorem OwnM.nil (w : World) (base : Nat) : OwnM w base none 0 [] := World.ownsRow_nil _ _ _ _
theorem OwnM.mat {w : World} {base : Nat} {A : Option Addr} {c : Nat} {l : List Mt} (h : OwnM w base A c l) : MAt w A l := fun k m hk => by
 have hk' := (List.getElem?_eq_some_iff.1 hk).1
 rcases own_formS h with ⟨hn, _⟩ | ⟨_, g, c', hv, _, hg, _⟩
 · omega
 · simp only [Value.slice.injEq, true_and] at hv
   obtain ⟨rfl, rfl⟩ := hv
   have key : ∀ j, j < 10 → w.cell? ⟨g, 0 + k * 10 + j, none⟩ = m.cells[j]? := fun j hj => by
    rw [Nat.zero_add, World.ownsRow.cellAt h _ (by omega)]
    exact flatM_get hk hj
   exact ⟨g, 0, rfl, hg, key 0 (by omega), key 1 (by omega), key 2 (by omega), key 3 (by omega), key 4 (by omega), key 5 (by omega), key 6 (by omega), key 7 (by omega), key 8 (by omega), key 9 (by omega)⟩
theorem OwnM.fresh {w : World} {base : Nat} {A : Option Addr} {c : Nat} {l : List Mt} (h : OwnM w base A c l) : ∀ k, Value.ownBlock (.slice A l.length c) = some k → base ≤ k := fun k hk => (World.ownsRow.lt h k hk).1
theorem OwnM.low {W : World} {base : Nat} {A : Option Addr} {c : Nat} {l : List Mt} (h : OwnM W base A c l) {p : Addr} (hp : p.block < base) (u : Value) : OwnM (W.setCell p u) base A c l := ownr_low h hp u
theorem OwnM.bel {W W' : World} {base B : Nat} {A : Option Addr} {c : Nat} {l : List Mt} (h : OwnM W base A c l) (hb : Below B W W') (hB : W.heap.size ≤ B) : OwnM W' base A c l := own_below h hb hB
theorem OwnM.alloc {w : World} {base : Nat} {A : Option Addr} {c : Nat} {l : List Mt} (h : OwnM w base A c l) (o : Obj) : OwnM (w.alloc o) base A c l := World.ownsRow.alloc h o
theorem ownm_snoc {w : World} {base : Nat} {v : Value} {l : List Mt} {m : Mt} (h : w.ownsRow base 40 10 v (l.length + 1) (flatM l ++ m.cells)) : ∃ A c, v = .slice A (l ++ [m]).length c ∧ OwnM w base A c (l ++ [m]) := by
 obtain ⟨A, c, rfl⟩ := own_slice h
 refine ⟨A, c, by simp, ?_⟩
 have e : flatM (l ++ [m]) = flatM l ++ m.cells := by simp [flatM]
 unfold OwnM
 rw [e, List.length_append]
 exact h
theorem infM : (Tryz.prog.info? 40).map (fun i => (i.zero, i.size, i.bytes)) = some (some (.agg #[.int .i64 0, .int .i64 0, .int .i64 0, .int .i64 0, .int .i64 0, .int .i64 0, .int .i64 0, .int .i64 0, .int .i64 0, .int .i64 0]), 10, 80) := by kernel_rfl
theorem cell10 {w : World} {g : Nat} {m : Mt} (c0 : w.cell? ⟨g, 0, none⟩ = some (.int .i64 m.a)) (c1 : w.cell? ⟨g, 1, none⟩ = some (.int .i64 m.b)) (c2 : w.cell? ⟨g, 2, none⟩ = some (.int .i64 m.n1)) (c3 : w.cell? ⟨g, 3, none⟩ = some (.int .i64 m.n2)) (c4 : w.cell? ⟨g, 4, none⟩ = some (.int .i64 m.w1)) (c5 : w.cell? ⟨g, 5, none⟩ = some (.int .i64 m.w2)) (c6 : w.cell? ⟨g, 6, none⟩ = some (.int .i64 m.k1)) (c7 : w.cell? ⟨g, 7, none⟩ = some (.int .i64 m.k2)) (c8 : w.cell? ⟨g, 8, none⟩ = some (.int .i64 m.e)) (c9 : w.cell? ⟨g, 9, none⟩ = some (.int .i64 m.g)) : ∀ j u, m.cells[j]? = some u → w.cell? ⟨g, j, none⟩ = some u := fun j u hj => by
 rcases j with _ | _ | _ | _ | _ | _ | _ | _ | _ | _ | j <;> simp [Mt.cells] at hj <;> (subst hj; assumption)
theorem one10 {m : Mt} : ∀ u ∈ m.cells, u.oneCell' = true := by intro u hu; simp [Mt.cells] at hu; rcases hu with rfl | rfl | rfl | rfl | rfl | rfl | rfl | rfl | rfl | rfl <;> rfl
def OwnW (w : World) (base : Nat) (A : Option Addr) (c : Nat) (l : List V2) : Prop := w.ownsRow base 38 2 (.slice A l.length c) l.length (flatV l)
theorem OwnW.vat {w : World} {base : Nat} {A : Option Addr} {c : Nat} {l : List V2} (h : OwnW w base A c l) : VAt w A l := own_vat h
theorem OwnW.low {W : World} {base : Nat} {A : Option Addr} {c : Nat} {l : List V2} (h : OwnW W base A c l) {p : Addr} (hp : p.block < base) (u : Value) : OwnW (W.setCell p u) base A c l := ownr_low h hp u
theorem OwnW.bel {W W' : World} {base B : Nat} {A : Option Addr} {c : Nat} {l : List V2} (h : OwnW W base A c l) (hb : Below B W W') (hB : W.heap.size ≤ B) : OwnW W' base A c l := own_below h hb hB
theorem OwnW.alloc {w : World} {base : Nat} {A : Option Addr} {c : Nat} {l : List V2} (h : OwnW w base A c l) (o : Obj) : OwnW (w.alloc o) base A c l := World.ownsRow.alloc h o
theorem flatV_set {l : List V2} {k : Nat} {x : V2} (hk : k < l.length) : flatV (l.set k x) = ((flatV l).set (k * 2) (.int .i64 x.1)).set (k * 2 + 1) (.int .i64 x.2) := by
 apply List.ext_getElem?
 intro j
 rw [List.getElem?_set, List.getElem?_set]
 have hlen : ((flatV l).set (k * 2) (Value.int .i64 x.1)).length = l.length * 2 := by rw [List.length_set, flatV_len]
 have hlen2 := flatV_len l
 by_cases hj : j < l.length * 2
 · have e : j = j / 2 * 2 + j % 2 := by omega
   have hj2 : j / 2 < l.length := by omega
   obtain ⟨y, hy⟩ : ∃ y, (l.set k x)[j / 2]? = some y := ⟨(l.set k x)[j / 2]'(by simpa using hj2), by simp⟩
   have h1 := flatV_get (j := j % 2) hy (by omega)
   rw [← e] at h1
   rw [h1]
   obtain ⟨z, hz⟩ : ∃ z, l[j / 2]? = some z := ⟨l[j / 2], by simp⟩
   have h2 := flatV_get (j := j % 2) hz (by omega)
   rw [← e] at h2
   rw [List.getElem?_set] at hy
   by_cases ek : k = j / 2
   · rw [if_pos ek, if_pos hk] at hy
     obtain rfl := Option.some.inj hy
     rcases (by omega : j % 2 = 0 ∨ j % 2 = 1) with e0 | e0
     · rw [if_neg (by omega), if_pos (by omega), if_pos (by omega), e0]; rfl
     · rw [if_pos (by omega), if_pos (by omega), e0]; rfl
   · rw [if_neg ek] at hy
     rw [hz] at hy
     obtain rfl := Option.some.inj hy
     rw [if_neg (by omega), if_neg (by omega), h2]
 · rw [List.getElem?_eq_none (by rw [flatV_len, List.length_set]; omega), if_neg (by omega), if_neg (by omega), List.getElem?_eq_none (by omega)]
theorem OwnW.stored {w : World} {base c g k : Nat} {l : List V2} (h : OwnW w base (some ⟨g, 0, none⟩) c l) (hk : k < l.length) (x y : Int) :
  OwnW ((w.setCell ⟨g, k * 2, none⟩ (.int .i64 x)).setCell ⟨g, k * 2 + 1, none⟩ (.int .i64 y)) base (some ⟨g, 0, none⟩) c (l.set k (x, y)) := by
 have h1 := World.ownsRow.stored h (k * 2) (.int .i64 x)
 have h2 := World.ownsRow.stored h1.1 (k * 2 + 1) (.int .i64 y)
 unfold OwnW
 rw [flatV_set hk, List.length_set]
 exact h2.1
def apprM (v : List V2) (m : Mt) : Bool := apprB (v.getD m.a.toNat (0, 0)).1 (v.getD m.a.toNat (0, 0)).2 (surfM m v).1 (surfM m v).2 m.n1 m.n2
theorem apprM_s {v : List V2} {m : Mt} (h : apprM v m = true) (hb : m.b = -1) : apprB (v.getD m.a.toNat (0, 0)).1 (v.getD m.a.toNat (0, 0)).2 m.w1 m.w2 m.n1 m.n2 = true := by unfold apprM surfM at h; rw [if_pos hb] at h; exact h
theorem apprM_t {v : List V2} {m : Mt} (h : apprM v m = true) (hb : ¬ m.b = -1) : apprB (v.getD m.a.toNat (0, 0)).1 (v.getD m.a.toNat (0, 0)).2 (v.getD m.b.toNat (0, 0)).1 (v.getD m.b.toNat (0, 0)).2 m.n1 m.n2 = true := by unfold apprM surfM at h; rw [if_neg hb] at h; exact h
def effL (l : List Mt) (v : List V2) : List Mt := l.filter (apprM v)
theorem effL_take {l : List Mt} {v : List V2} {k : Nat} {m : Mt} (h : l[k]? = some m) : effL (l.take (k + 1)) v = effL (l.take k) v ++ (if apprM v m = true then [m] else []) := by
 unfold effL
 rw [List.take_add_one, h, List.filter_append]
 congr 1
 simp only [Option.toList_some, List.filter_cons, List.filter_nil]
theorem effL_len (l : List Mt) (v : List V2) : (effL l v).length ≤ l.length := List.length_filter_le _ _
def newV (l : List Mt) (v : List V2) (k : Int) : V2 := (clampR (meanR (l.map fun m => aloneR m v k)).1, clampR (meanR (l.map fun m => aloneR m v k)).2)
def putV (l : List Mt) (v : List V2) (bs : List Int) (o : List V2) : List V2 := bs.foldl (fun o b => o.set b.toNat (newV l v b)) o
theorem putV_len (l : List Mt) (v : List V2) : ∀ (bs : List Int) (o : List V2), (putV l v bs o).length = o.length
 | [], o => rfl
 | b :: bs, o => by
  show (putV l v bs (o.set b.toNat (newV l v b))).length = _
  rw [putV_len l v bs, List.length_set]
theorem putV_take {l : List Mt} {v o : List V2} {bs : List Int} {k : Nat} {b : Int} (h : bs[k]? = some b) : putV l v (bs.take (k + 1)) o = (putV l v (bs.take k) o).set b.toNat (newV l v b) := by
 unfold putV
 rw [List.take_add_one, h, List.foldl_append]
 rfl
def chgV (l : List Mt) (v : List V2) (bs : List Int) : Bool := bs.any fun b => decide (¬ newV l v b = v.getD b.toNat (0, 0))
theorem chgV_take {l : List Mt} {v : List V2} {bs : List Int} {k : Nat} {b : Int} (h : bs[k]? = some b) : chgV l v (bs.take (k + 1)) = (chgV l v (bs.take k) || decide (¬ newV l v b = v.getD b.toNat (0, 0))) := by
 unfold chgV
 rw [List.take_add_one, h, List.any_append]
 simp
def ballsE (l : List Mt) (v : List V2) : List Int := setI (ballsL (effL l v))
def resR (l : List Mt) (v : List V2) : List V2 × Bool × Int :=
  if 16 < l.length ∨ 64 < v.length then ([], false, 2)
  else if v.all (nearB 1048576) = true ∧ l.all (fun m => permM m v.length) = true then (putV (effL l v) v (ballsE l v) v, chgV (effL l v) v (ballsE l v), 0)
  else ([], false, 1)
theorem balls_in {l : List Mt} {v : List V2} (hp : ∀ m ∈ l, PermM m v.length) {b : Int} (hb : b ∈ ballsE l v) : 0 ≤ b ∧ b < v.length ∧ 1 ≤ (effL l v).length := by
 unfold ballsE at hb
 rw [setI_mem] at hb
 unfold ballsL at hb
 rw [List.mem_flatMap] at hb
 obtain ⟨m, hm, hb⟩ := hb
 have hl : 1 ≤ (effL l v).length := List.length_pos_of_mem hm
 have := hp m (List.mem_filter.1 hm).1
 obtain ⟨a0, a1, b0, b1, _⟩ := this
 split at hb
 · rw [List.mem_singleton] at hb; subst hb; exact ⟨a0, a1, hl⟩
 · rename_i hne
   simp only [List.mem_cons, List.not_mem_nil, or_false] at hb
   rcases hb with rfl | rfl
   · exact ⟨a0, a1, hl⟩
   · exact ⟨by omega, b1, hl⟩
theorem alls_ok {l : List Mt} {v : List V2} (hp : ∀ m ∈ l, PermM m v.length) (hv : v.all (nearB 1048576) = true) {k : Int} (h0 : 0 ≤ k) (h1 : k < v.length) : ∀ r ∈ (effL l v).map (fun m => aloneR m v k), Val r ∧ Bnd 8388608 r := fun r hr => by
 obtain ⟨m, hm, rfl⟩ := List.mem_map.1 hr
 exact alone_ok (hp m (List.mem_filter.1 hm).1) hv h0 h1
def RsvOut (R : List V2 × Bool × Int) (w : World) (e : Ending) (w' : World) : Prop := Below w.heap.size w w' ∧ ∃ O q, e = .returned (.tuple #[.slice O R.1.length q, .bool R.2.1, .int .i64 R.2.2]) ∧ VAt w' O R.1
theorem map_take_suc {α β : Type} {l : List α} {f : α → β} {k : Nat} {x : α} (h : l[k]? = some x) : (l.take (k + 1)).map f = (l.take k).map f ++ [f x] := by
 rw [List.take_add_one, h, List.map_append]
 rfl
theorem zuR : ∀ u ∈ (Value.agg #[.bool false, .slice none 0 0, .bool false, .slice none 0 0, .bool false, .slice none 0 0]).cells.toList, ∀ x, u ≠ .int .u32 x := by
 intro u hu x
 simp [Value.cells] at hu
 rcases hu with rfl | rfl | rfl | rfl | rfl | rfl <;> simp
theorem cell6 {w : World} {g : Nat} {v0 v1 v2 v3 v4 v5 : Value} (c0 : w.cell? ⟨g, 0, none⟩ = some v0) (c1 : w.cell? ⟨g, 1, none⟩ = some v1) (c2 : w.cell? ⟨g, 2, none⟩ = some v2) (c3 : w.cell? ⟨g, 3, none⟩ = some v3) (c4 : w.cell? ⟨g, 4, none⟩ = some v4) (c5 : w.cell? ⟨g, 5, none⟩ = some v5) : ∀ j u, [v0, v1, v2, v3, v4, v5][j]? = some u → w.cell? ⟨g, j, none⟩ = some u := fun j u hj => by
 rcases j with _ | _ | _ | _ | _ | _ | j <;> simp at hj <;> (subst hj; assumption)
theorem within_up {a b n m : Int} (h : withinB a b n = true) (hnm : n ≤ m) : withinB a b m = true := by
 simp only [withinB, decide_eq_true_eq] at *; omega
theorem near_sub {l : List V2} {k : Nat} (h : k < l.length) : ∃ y1 y2, l[k]? = some (y1, y2) := ⟨l[k].1, l[k].2, by simp [h]⟩
set_option maxRecDepth 100000 in
set_option maxHeartbeats 40000000 in
theorem resolve_any (l : List Mt) (A : Option Addr) (c : Nat) (v : List V2) (B : Option Addr) (d : Nat) (w : World) (hM : MAt w A l) (hV : VAt w B v) :
  Calls Tryz.prog 6 #[.slice A l.length c, .slice B v.length d] w (RsvOut (resR l v) w) := by
 have HM := hQ0 hM
 have HV := hQ0 hV
 by_cases hs : 16 < l.length ∨ 64 < v.length
 · have hR : resR l v = ([], false, 2) := by unfold resR; rw [if_pos hs]
   rw [hR]
   have hcase : (16 < (l.length : Int)) ∨ (¬ 16 < (l.length : Int) ∧ 64 < (v.length : Int)) := by omega
   clear hs hM hV
   rcases hcase with h | ⟨h, h2⟩
   all_goals
    go_enter Tryz.func6, Tryz.ntmps6; (try simp only [List.append_eq, List.cons_append, List.nil_append])
    go_wp2_with fail
    refine bodyPost_ret (v := .tuple #[.slice none 0 0, .bool false, .int .i64 2]) (by (try simp only [results, Tryz.results6]); (try go_simp)) rfl ⟨?_, ?_⟩
    · exact Below.refl _ _
    · exact ⟨none, 0, rfl, VAt.nil _ _⟩
 · have s1 : ¬ 16 < (l.length : Int) := by omega
   have s2 : ¬ 64 < (v.length : Int) := by omega
   have l1 : l.length ≤ 16 := by omega
   have l2 : v.length ≤ 64 := by omega
   have kw := fun w' (h : Below w.heap.size w w') => cwithin_any 1048576 v B d w' (by omega) (hV.below h (Nat.le_refl _)) (by omega) (by omega)
   obtain ⟨R, hR⟩ : ∃ R, R = resR l v := ⟨_, rfl⟩
   rw [← hR]
   unfold resR at hR
   rw [if_neg hs] at hR
   have HR := hQ0 hR
   have KW := hQ0 kw
   clear hs hM hV hR kw
   by_cases hva : v.all (nearB 1048576) = true
   case neg =>
    have hR1 : R = ([], false, 1) := by rw [HR.out, if_neg (fun h => hva h.1)]
    subst hR1
    have hvf : v.all (nearB 1048576) = false := by simpa using hva
    rw [hvf] at KW
    clear HR hva hvf
    go_enter Tryz.func6, Tryz.ntmps6; (try simp only [List.append_eq, List.cons_append, List.nil_append])
    go_wp2_with fail
    (go_at_call 19; refine (KW.out _ (Below.refl _ _)).mono ?_; rintro e w1 ⟨rfl, hb_w1⟩; have hz_w1 := hb_w1.size; (try simp at hz_w1); skip)
    go_wp2_with fail
    refine bodyPost_ret (v := .tuple #[.slice none 0 0, .bool false, .int .i64 1]) (by (try simp only [results, Tryz.results6]); (try go_simp)) rfl ⟨?_, ?_⟩
    · ((with_reducible (repeat (first | exact bR _ _ | apply bS | apply bA | apply bD | refine bT ?_ (by assumption) ?_ | refine bO (by assumption) ?_ ?_))) <;> (first | omega | (simp <;> omega)))
    · exact ⟨none, 0, rfl, VAt.nil _ _⟩
   case pos =>
    have HVA := hQ0 hva
    rw [hva] at KW
    clear hva
    have kp := fun (m : Mt) (w : World) => permitted16_any m v.length w
    have ks := fun (m : Mt) (w' : World) (h : Below w.heap.size w w') (h1 : -1 ≤ m.b) (h2 : m.b < v.length) => surface_any m v B d w' (HV.out.below h (Nat.le_refl _)) h1 h2
    have ka := fun (a b c d e f : Int) (w : World) => approaches_any a b c d e f w
    have KP := hQ0 kp
    have KS := hQ0 ks
    have KA := hQ0 ka
    clear kp ks ka
    go_enter Tryz.func6, Tryz.ntmps6; (try simp only [List.append_eq, List.cons_append, List.nil_append])
    go_wp2_with fail
    (go_at_call 19; refine (KW.out _ (Below.refl _ _)).mono ?_; rintro e w1 ⟨rfl, hb_w1⟩; have hz_w1 := hb_w1.size; (try simp at hz_w1); skip)
    have HB1 := hQ0 (show Below w.heap.size w w1 by ((with_reducible (repeat (first | exact bR _ _ | apply bS | apply bA | apply bD | refine bT ?_ (by assumption) ?_ | refine bO (by assumption) ?_ ?_))) <;> (first | omega | (simp <;> omega))))
    clear hb_w1
    go_wp2_with fail
    go_loopw [5, 7, 30] (fun t5 t7 t30 wr => ∃ (k : Nat) (E : Option Addr) (q : Nat), k ≤ l.length ∧ t5 = .bool false ∧ t30 = .int .i64 k ∧ t7 = .slice E (effL (l.take k) v).length q ∧ Hid (OwnM wr w1.heap.size E q (effL (l.take k) v) ∧ Below w1.heap.size w1 wr ∧ ∀ m ∈ l.take k, PermM m v.length)) (fun _ _ t30 _ => l.length - (intOf t30).toNat)
    case atStart => exact ⟨0, none, 0, by omega, rfl, rfl, rfl, hQ0 ⟨OwnM.nil _ _, Below.refl _ _, fun m hm => by simp at hm⟩⟩
    case round =>
     obtain ⟨k, E, q, hk, rfl, rfl, rfl, HI⟩ := hrel
     obtain ⟨w2, rfl⟩ : ∃ z, z = wr := ⟨_, rfl⟩
     have HB2 := hQ0 (HB1.out.trans (HI.out.2.1.mono (by have := HB1.out.size; omega)))
     have k1 : (0 : Int) ≤ (k : Int) := by omega
     by_cases hkl : k < l.length
     · have k2 : (k : Int) < (l.length : Int) := by omega
       obtain ⟨m, hm⟩ : ∃ m, l[k]? = some m := ⟨l[k], by simp⟩
       have HMK := hQ0 hm
       obtain ⟨gm, om, rfl, hgm, m0, m1, m2, m3, m4, m5, m6, m7, m8, m9⟩ := (HM.out.below HB2.out (Nat.le_refl _)) k m hm
       have kp := fun w => KP.out m w
       clear hm
       obtain ⟨pm, hpm⟩ : ∃ b, b = permM m v.length := ⟨_, rfl⟩
       rw [← hpm] at kp
       have KPM := hQ0 kp
       have HPM := hQ0 hpm
       clear kp hpm
       cases pm
       · have hR1 : R = ([], false, 1) := by
          rw [HR.out, if_neg]
          rintro ⟨_, h⟩
          have := List.all_eq_true.1 h m (List.mem_of_getElem? HMK.out)
          rw [← HPM.out] at this
          exact absurd this (by decide)
         subst hR1
         obtain ⟨ma, mb, n1, n2, x1, x2, y1, y2, e, f⟩ := m
         simp only [Mt.v] at *
         go_wp2_with fail
         (go_at_call 20; refine (KPM.out _).mono ?_; rintro e w3 ⟨rfl, hb_w3⟩; have hz_w3 := hb_w3.size; (try simp at hz_w3); (with_reducible apply cel10 (b := w2.heap.size) hb_w3); ((try simp) <;> omega); omega; (iterate 10 (focus (go_simp; try exact rfl))); (intro o; go_simp); intro cc cc cc cc cc cc cc cc cc cc fz hl)
         have HB3 := hQ0 (show Below w.heap.size w w3 by have hB := HB2.out; have hB2 := hB.size; ((with_reducible (repeat (first | exact bR _ _ | apply bS | apply bA | apply bD | refine bT ?_ (by assumption) ?_ | refine bO (by assumption) ?_ ?_))) <;> (first | omega | (simp <;> omega))))
         clear hb_w3
         go_wp2_with fail
         refine bodyPost_ret (v := .tuple #[.slice none 0 0, .bool false, .int .i64 1]) (by (try simp only [results, Tryz.results6]); (try go_simp)) rfl ⟨?_, ?_⟩
         · exact HB3.out
         · exact ⟨none, 0, rfl, VAt.nil _ _⟩
       · have hP := permM_iff.1 HPM.out.symm
         have HP := hQ0 hP
         obtain ⟨ga, oa, rfl, hga, a0, a1⟩ := vat_cell (HV.out.below HB2.out (Nat.le_refl _)) hP.a0 hP.a1
         have i1 := hP.a0
         have i2 := hP.a1
         have ks := fun w' h => KS.out m w' h hP.b0 hP.b1
         have ka := fun w' => KA.out (v.getD m.a.toNat (0, 0)).1 (v.getD m.a.toNat (0, 0)).2 (surfM m v).1 (surfM m v).2 m.n1 m.n2 w'
         obtain ⟨ap, hap⟩ : ∃ b, b = apprM v m := ⟨_, rfl⟩
         rw [show apprB (v.getD m.a.toNat (0, 0)).1 (v.getD m.a.toNat (0, 0)).2 (surfM m v).1 (surfM m v).2 m.n1 m.n2 = ap by rw [hap]; rfl] at ka
         have HAP := hQ0 hap
         have HTK := hQ0 (effL_take (v := v) HMK.out)
         rw [← hap] at HTK
         generalize (v.getD m.a.toNat (0, 0)).1 = va1 at *
         generalize (v.getD m.a.toNat (0, 0)).2 = va2 at *
         generalize (surfM m v).1 = s1' at *
         generalize (surfM m v).2 = s2' at *
         have KSM := hQ0 ks
         have KAM := hQ0 ka
         have HPA := hQ0 (show ∀ x ∈ l.take (k + 1), PermM x v.length from fun x hx => by
          rw [List.take_add_one, HMK.out, List.mem_append] at hx
          rcases hx with hx | hx
          · exact HI.out.2.2 x hx
          · simp only [Option.toList_some, List.mem_singleton] at hx
            subst hx; exact HP.out)
         have hel := effL_len (l.take k) v
         rw [List.length_take] at hel
         generalize effL (l.take k) v = L at *
         clear ks ka hap hP
         obtain ⟨ma, mb, n1, n2, x1, x2, y1, y2, e, f⟩ := m
         simp only [Mt.v] at *
         go_wp2_with fail
         (go_at_call 20; refine (KPM.out _).mono ?_; rintro e w3 ⟨rfl, hb_w3⟩; have hz_w3 := hb_w3.size; (try simp at hz_w3); (with_reducible apply cel10 (b := w2.heap.size) hb_w3); ((try simp) <;> omega); omega; (iterate 10 (focus (go_simp; try exact rfl))); (intro o; go_simp); intro cc cc cc cc cc cc cc cc cc cc fz hl)
         have HB3 := hQ0 (show Below w2.heap.size w2 w3 by ((with_reducible (repeat (first | exact bR _ _ | apply bS | apply bA | apply bD | refine bT ?_ (by assumption) ?_ | refine bO (by assumption) ?_ ?_))) <;> (first | omega | (simp <;> omega))))
         have a0' := (HB3.out.cell (p := ⟨ga, oa + ma.toNat * 2, none⟩) hga).trans a0
         have a1' := (HB3.out.cell (p := ⟨ga, oa + ma.toNat * 2 + 1, none⟩) hga).trans a1
         have hga3 : ga < w3.heap.size := by omega
         clear hb_w3 a0 a1
         go_wp2_with fail
         refine wp_region_warm (Own w3.heap.size w3) (by kernel_rfl) (by kernel_rfl) (Own.refl (Nat.le_refl _)).drew ?_
         repeat (first | (refine wpWarm_step_off rfl (fun K hK => ?_); (go_simp; refine hK _ ?_; clear hK K)) | (apply wpWarm_step rfl; (focus (intro W' hS; have hcS := hS.cells; go_simp; (first | done | exact rfl | exact ⟨rfl, hS⟩ | (go_at_call 22; exact (KSM.out _ (HB2.out.trans ((HB3.out.trans (hS.2.mono (by have := HB3.out.size; omega))).mono (by have := HB2.out.size; omega)))).mono (fun _ _ h => ⟨h.1, hS.call h.2⟩)) | (go_at_call 21; exact (KAM.out _).mono (fun _ _ h => ⟨h.1, hS.call h.2⟩)) | (go_simp; exact rfl)))); (intro K hK; go_simp; (try go_bits); refine hK _ ?_; clear hK K)) | (apply wpWarm_step_on rfl; (focus (intro W' hS; have hcS := hS.cells; go_simp; (first | done | exact rfl | exact ⟨rfl, hS⟩ | (go_at_call 22; exact (KSM.out _ (HB2.out.trans ((HB3.out.trans (hS.2.mono (by have := HB3.out.size; omega))).mono (by have := HB2.out.size; omega)))).mono (fun _ _ h => ⟨h.1, hS.call h.2⟩)) | (go_at_call 21; exact (KAM.out _).mono (fun _ _ h => ⟨h.1, hS.call h.2⟩)) | (go_simp; exact rfl)))); (intro K hK; go_simp; (try go_bits); refine hK _ ?_; clear hK K)))
         (refine wpWarm_nil ?_; intro w4 hO; have hz_w4 := hO.1; have hb_w4 := hO.2; clear hO; (with_reducible apply cel10 (b := w2.heap.size) hb_w4); ((try simp) <;> omega); omega; (iterate 10 (focus (go_simp; try exact rfl))); (intro o; go_simp); intro cc cc cc cc cc cc cc cc cc cc fz hl)
         have HB4 := hQ0 (HB3.out.trans (hb_w4.mono (by have := HB3.out.size; omega)))
         clear hb_w4 a0' a1'
         cases ap
         · go_wp2_with fail
           go_roundw
           case rel =>
            have e1 : effL (l.take (k + 1)) v = L := by rw [HTK.out, if_neg (by decide), List.append_nil]
            exact ⟨k + 1, E, q, by omega, rfl, by go_num, by rw [e1], hQ0 ⟨by rw [e1]; exact HI.out.1.bel HB4.out (Nat.le_refl _), HI.out.2.1.trans (HB4.out.mono (by have := HI.out.2.1.size; omega)), HPA.out⟩⟩
           case measure => simp [intOf]; omega
         · have HO4 := hQ0 (HI.out.1.bel HB4.out (Nat.le_refl _))
           have hz4 : w1.heap.size ≤ w4.heap.size := by have := HI.out.2.1.size; omega
           go_wp2_with (at_builtin; go_must (refine wpList_append_one rfl _ _ 22 40 _ 10 80 rfl Tryz.underlying22 infM rfl (by decide) (by decide) w1.heap.size _ L.length (flatM L) (Mt.cells ⟨ma, mb, n1, n2, x1, x2, y1, y2, e, f⟩) rfl (show OwnM _ w1.heap.size E q L by ((repeat (first | (with_reducible exact HO4.out) | (with_reducible refine OwnM.low ?_ ?_ _) | (with_reducible refine OwnM.alloc ?_ _))) <;> first | omega | (simp <;> omega))) _ 1 rfl rfl (cell10 (m := ⟨ma, mb, n1, n2, x1, x2, y1, y2, e, f⟩) (by go_simp) (by go_simp) (by go_simp) (by go_simp) (by go_simp) (by go_simp) (by go_simp) (by go_simp) (by go_simp) (by go_simp)) one10 (by omega) (by simp; omega) ?_))
           intro v1 w5 hown5 hg5 _
           obtain ⟨E5, q5, rfl, ho5⟩ := ownm_snoc hown5
           have HO5 := hQ0 ho5
           have HB5 := hQ0 ((show Below w1.heap.size w1 _ from ((HI.out.2.1.trans (HB4.out.mono (by have := HI.out.2.1.size; omega))).alloc (by omega) _)).grown hg5 (by simp; omega) HO4.out.fresh)
           clear hg5 hown5 ho5
           have e1 : effL (l.take (k + 1)) v = L ++ [⟨ma, mb, n1, n2, x1, x2, y1, y2, e, f⟩] := by rw [HTK.out, if_pos (by first | rfl | trivial)]
           have HE1 := hQ0 e1
           rw [← e1]
           rw [← e1] at HO5
           clear e1
           go_wp2_with fail
           go_roundw
           case rel => exact ⟨k + 1, E5, q5, by omega, rfl, by go_num, rfl, hQ0 ⟨HO5.out, HB5.out, HPA.out⟩⟩
           case measure => simp [intOf]; omega
     · obtain rfl : k = l.length := by omega
       have HI' := HI.out
       rw [List.take_length] at HI'
       have HPL := hQ0 HI'.2.2
       have hR1 : R = (putV (effL l v) v (ballsE l v) v, chgV (effL l v) v (ballsE l v), 0) := by
        rw [HR.out, if_pos ⟨HVA.out, List.all_eq_true.2 fun m hm => permM_iff.2 (HPL.out m hm)⟩]
       subst hR1
       have HBI := hQ0 (fun b (hb : b ∈ ballsE l v) => balls_in HPL.out hb)
       have hel := effL_len l v
       have HPE := hQ0 (show ∀ m ∈ effL l v, PermM m v.length from fun m hm => HPL.out m (List.mem_filter.1 hm).1)
       have HAP := hQ0 (show ∀ m ∈ effL l v, apprM v m = true from fun m hm => (List.mem_filter.1 hm).2)
       have HAO := hQ0 (fun (b : Int) h0 h1 => alls_ok (k := b) HPL.out HVA.out h0 h1)
       have HBE := hQ0 (show ballsE l v = setI (ballsL (effL l v)) from rfl)
       rw [List.take_length]
       generalize ballsE l v = bs at *
       generalize effL l v = F at *
       have hbl : bs.length ≤ 64 := by rw [HBE.out]; have h1 := setI_len (ballsL F); have h2 := ballsL_len F; omega
       have HE := hQ0 HI'.1.mat
       have kc := fun w' (h : Below w2.heap.size w2 w') => clonev_any v B d w' (by omega) (HV.out.below (HB2.out.trans (h.mono (by have := HB2.out.size; omega))) (Nat.le_refl _))
       have kb := fun w' (h : Below w2.heap.size w2 w') => balls_any F E q w' (HE.out.below h (Nat.le_refl _)) (by omega)
       rw [← HBE.out] at kb
       have KC := hQ0 kc
       have KB := hQ0 kb
       clear kc kb HI' HI KW KP KS KA HM HR
       go_wp2_with fail
       (go_at_call 23; refine (KC.out _ (Below.refl _ _)).mono ?_; rintro e w3 ⟨hb_w3, O, qo, rfl, ho3⟩; have hz_w3 := hb_w3.size; (try simp at hz_w3); skip)
       have HB3 := hQ0 hb_w3
       have HO3 := hQ0 (show OwnW w3 w2.heap.size O qo v from ho3)
       have HOG := hQ0 (show 0 < v.length → ∃ go, O = some ⟨go, 0, none⟩ ∧ w2.heap.size ≤ go ∧ go < w3.heap.size from fun h => by
        rcases own_formS HO3.out with ⟨hn, _⟩ | ⟨_, g, c', hv', _, hg, hb⟩
        · omega
        · simp only [Value.slice.injEq, true_and] at hv'
          exact ⟨g, hv'.1, hb, hg⟩)
       clear hb_w3 ho3
       go_wp2_with fail
       (go_at_call 11; refine (KB.out _ HB3.out).mono ?_; rintro e w4 ⟨hb_w4, G, qg, rfl, hg4⟩; have hz_w4 := hb_w4.size; (try simp at hz_w4); skip)
       have HB4 := hQ0 (HB3.out.trans (hb_w4.mono (by have := HB3.out.size; omega)))
       have HO4 := hQ0 (HO3.out.bel hb_w4 (Nat.le_refl _))
       have HG4 := hQ0 hg4
       have hz3 := HB3.out.size
       clear hb_w4 hg4 KC KB
       go_wp2_with fail
       go_loopw [5, 60] (fun t5 t60 wr => ∃ (j : Nat), j ≤ bs.length ∧ t60 = .int .i64 j ∧ t5 = .bool (chgV F v (bs.take j)) ∧ Hid (OwnW wr w2.heap.size O qo (putV F v (bs.take j) v) ∧ OwnI wr w3.heap.size G qg bs ∧ Below w2.heap.size w2 wr ∧ w3.heap.size ≤ wr.heap.size)) (fun _ t60 _ => bs.length - (intOf t60).toNat)
       case atStart => exact ⟨0, by omega, rfl, rfl, hQ0 ⟨HO4.out, HG4.out, HB4.out, hz_w4⟩⟩
       case round =>
        clear HO4 HG4 HB4 HO3 HB3
        obtain ⟨j, hj, rfl, rfl, HJ⟩ := hrel
        obtain ⟨w5, rfl⟩ : ∃ z, z = wr := ⟨_, rfl⟩
        have j1 : (0 : Int) ≤ (j : Int) := by omega
        by_cases hjl : j < bs.length
        · have j2 : (j : Int) < (bs.length : Int) := by omega
          obtain ⟨b, hb⟩ : ∃ b, bs[j]? = some b := ⟨bs[j], by simp⟩
          obtain ⟨b0, b1, hF1⟩ := HBI.out b (List.mem_of_getElem? hb)
          have HBJ := hQ0 hb
          obtain ⟨gb, ob, rfl, hgb, cb⟩ := HJ.out.2.1.iat j b hb
          obtain ⟨gv, ov, rfl, hgv, v0, v1⟩ := vat_cell HV.out b0 b1
          have HB5 := hQ0 (HB2.out.trans (HJ.out.2.2.1.mono (by have := HB2.out.size; omega)))
          have hvl : 0 < v.length := by omega
          obtain ⟨go, hOO, hgo, hgo2⟩ := HOG.out hvl
          subst hOO
          have HTA := hQ0 (putV_take (l := F) (v := v) (o := v) hb)
          have HTC := hQ0 (chgV_take (l := F) (v := v) hb)
          have kal := fun (m : Mt) (hp : PermM m v.length) (hap : apprM v m = true) (w' : World) (h : Below w5.heap.size w5 w') => alone_any m v (some ⟨gv, ov, none⟩) d b w' (HV.out.below (HB5.out.trans (h.mono (by have := HB5.out.size; omega))) (Nat.le_refl _)) hp HVA.out b0 b1 (apprM_s hap) (apprM_t hap)
          have KAL := hQ0 kal
          have hPl : (putV F v (bs.take j) v).length = v.length := putV_len _ _ _ _
          clear hb kal
          go_wp2_with fail
          go_loopw [12, 66] (fun t12 t66 wr => ∃ (k : Nat) (A' : Option Addr) (c' : Nat) (xs : List Value), k ≤ F.length ∧ t66 = .int .i64 k ∧ t12 = .slice A' ((F.take k).map fun m => aloneR m v b).length c' ∧ Hid (RsOwn wr w5.heap.size A' c' ((F.take k).map fun m => aloneR m v b) xs ∧ Below w5.heap.size w5 wr)) (fun _ t66 _ => F.length - (intOf t66).toNat)
          case atStart => exact ⟨0, none, 0, [], by omega, rfl, rfl, hQ0 ⟨RsOwn.nil _ _, Below.refl _ _⟩⟩
          case round =>
           obtain ⟨k, A', c', xs, hk, rfl, rfl, HK⟩ := hrel
           obtain ⟨w6, rfl⟩ : ∃ z, z = wr := ⟨_, rfl⟩
           have k1 : (0 : Int) ≤ (k : Int) := by omega
           have HB6 := hQ0 (HJ.out.2.2.1.trans (HK.out.2.mono (by have := HJ.out.2.2.1.size; omega)))
           by_cases hkl : k < F.length
           · have k2 : (k : Int) < (F.length : Int) := by omega
             obtain ⟨m, hm⟩ : ∃ m, F[k]? = some m := ⟨F[k], by simp⟩
             obtain ⟨gm, om, rfl, hgm, m0, m1, m2, m3, m4, m5, m6, m7, m8, m9⟩ := (HE.out.below HB6.out (Nat.le_refl _)) k m hm
             have ka := fun w' h => KAL.out m (HPE.out m (List.mem_of_getElem? hm)) (HAP.out m (List.mem_of_getElem? hm)) w' h
             have HTK := hQ0 (show ((F.take (k + 1)).map fun m => aloneR m v b) = ((F.take k).map fun m => aloneR m v b) ++ [aloneR m v b] from map_take_suc (f := fun m => aloneR m v b) hm)
             have hml : ((F.take k).map fun m => aloneR m v b).length ≤ 16 := by rw [List.length_map, List.length_take]; omega
             unfold TOut at ka
             generalize ((F.take k).map fun m => aloneR m v b) = L at *
             generalize aloneR m v b = r at *
             have KA := hQ0 ka
             clear hm ka
             obtain ⟨ma, mb, n1, n2, x1, x2, y1, y2, e, f⟩ := m
             simp only [Mt.v] at *
             go_wp2_with fail
             (go_at_call 24; refine (KA.out _ (HK.out.2.trans (show Below w5.heap.size w6 _ by have := HK.out.2.size; ((with_reducible (repeat (first | exact bR _ _ | apply bS | apply bA | apply bD | refine bT ?_ (by assumption) ?_ | refine bO (by assumption) ?_ ?_))) <;> (first | omega | (simp <;> omega)))))).mono ?_; rintro e w7 ⟨hb_w7, vr, rfl, hvr⟩; have hz_w7 := hb_w7.size; (try simp at hz_w7); (with_reducible apply cel10 (b := w6.heap.size) hb_w7); ((try simp) <;> omega); omega; (iterate 10 (focus (go_simp; try exact rfl))); (intro o; go_simp); intro cc cc cc cc cc cc cc cc cc cc fz hl)
             obtain ⟨spx, Apx, npx, cpx, spy, Apy, npy, cpy, spd, Apd, npd, cpd, rfl⟩ := RAt.val hvr
             have HR7 := hQ0 (HK.out.1.below (show Below w6.heap.size w6 w7 by ((with_reducible (repeat (first | exact bR _ _ | apply bS | apply bA | apply bD | refine bT ?_ (by assumption) ?_ | refine bO (by assumption) ?_ ?_))) <;> (first | omega | (simp <;> omega)))))
             have HB7 := hQ0 (HK.out.2.trans (show Below w5.heap.size w6 w7 by have := HK.out.2.size; ((with_reducible (repeat (first | exact bR _ _ | apply bS | apply bA | apply bD | refine bT ?_ (by assumption) ?_ | refine bO (by assumption) ?_ ?_))) <;> (first | omega | (simp <;> omega)))))
             have HV7 := hQ0 hvr
             have hz7 : w5.heap.size ≤ w7.heap.size := HB7.out.size
             clear hb_w7 hvr
             go_wp2_with (at_builtin; go_must (refine wpList_append_u rfl _ _ 52 46 _ 6 96 rfl Tryz.underlying52 infR rfl zuR (by decide) (by decide) w5.heap.size _ L.length xs [.bool spx, .slice Apx npx cpx, .bool spy, .slice Apy npy cpy, .bool spd, .slice Apd npd cpd] rfl (HR7.out.1.below ((Below.refl _ _).alloc (Nat.le_refl _) _) (Nat.le_refl _)) _ 1 rfl rfl (cell6 (by go_simp) (by go_simp) (by go_simp) (by go_simp) (by go_simp) (by go_simp)) (by intro u hu; simp at hu; rcases hu with rfl | rfl | rfl | rfl | rfl | rfl <;> rfl) (by intro u hu x; simp at hu; rcases hu with rfl | rfl | rfl | rfl | rfl | rfl <;> simp) (by omega) (by simp; omega) ?_))
             intro v1' w8 hown8 hg8 hk8
             obtain ⟨A8, c8, rfl, hrs8⟩ := RsOwn.snoc (r := r) (HR7.out.below ((Below.refl _ _).alloc (Nat.le_refl _) _)) (HV7.out.al _) hown8 hk8
             have HRS8 := hQ0 hrs8
             have HB8 := hQ0 ((HB7.out.alloc hz7 _).grown hg8 (by simp; omega) (fun b hb => (HR7.out.1.own.lt b hb).1))
             clear hg8 hk8 hown8 hrs8
             go_wp2_with fail
             go_roundw
             case rel => exact ⟨k + 1, A8, c8, _, by omega, by go_num, by rw [HTK.out], hQ0 ⟨by rw [HTK.out]; exact HRS8.out, HB8.out⟩⟩
             case measure => simp [intOf]; omega
           · obtain rfl : k = F.length := by omega
             have HK' := HK.out
             rw [List.take_length] at HK' ⊢
             have HRA := hQ0 HK'.1.at
             have HB6' := hQ0 HK'.2
             have HNV := hQ0 (show newV F v b = (clampR (meanR (F.map fun m => aloneR m v b)).1, clampR (meanR (F.map fun m => aloneR m v b)).2) from rfl)
             have hall := HAO.out b b0 b1
             have kt := fun w' (h : Below w6.heap.size w6 w') => trunc_ok (F.map fun m => aloneR m v b) A' c' w' (by rw [List.length_map]; exact hF1) (by rw [List.length_map]; omega) (HRA.out.below h) (fun r hr => (hall r hr).1) (within_up (mean_within (by rw [List.length_map]; exact hF1) (fun r hr => ⟨(hall r hr).1.d, (hall r hr).2⟩)) (by omega))
             clear hall HK HK'
             generalize (meanR (F.map fun m => aloneR m v b)).1 = mx at *
             generalize (meanR (F.map fun m => aloneR m v b)).2 = my at *
             generalize (F.map fun m => aloneR m v b) = L at *
             have KT := hQ0 kt
             have kl := fun w => limited_any mx my w
             obtain ⟨X, hX⟩ : ∃ X, X = clampR mx := ⟨_, rfl⟩
             obtain ⟨Y, hY⟩ : ∃ Y, Y = clampR my := ⟨_, rfl⟩
             rw [← hX, ← hY] at kl HNV
             have KL := hQ0 kl
             clear kt kl hX hY
             go_wp2_with fail
             (go_at_call 25; refine (KT.out _ (Below.refl _ _)).mono ?_; rintro e w7 ⟨rfl, hb_w7⟩; have hz_w7 := hb_w7.size; (try simp at hz_w7); skip)
             have HB7 := hQ0 (HB6'.out.trans (hb_w7.mono (by have := HB6'.out.size; omega)))
             clear hb_w7
             go_wp2_with fail
             have hz57 := HB7.out.size
             (go_at_call 26; refine (KL.out _).mono ?_; rintro e w8 ⟨rfl, hb_w8⟩; have hz_w8 := hb_w8.size; (try simp at hz_w8); (with_reducible apply cal2 (b := w7.heap.size) hb_w8); (focus (go_simp; try exact ⟨rfl, rfl⟩)); intro cc cc fz hl)
             have HB8 := hQ0 (HB7.out.trans (show Below w5.heap.size w7 w8 by ((with_reducible (repeat (first | exact bR _ _ | apply bS | apply bA | apply bD | refine bT ?_ (by assumption) ?_ | refine bO (by assumption) ?_ ?_))) <;> (first | omega | (simp <;> omega)))))
             have hz58 := HB8.out.size
             clear hb_w8
             have hO8 := HJ.out.1.bel HB8.out (Nat.le_refl _)
             obtain ⟨y1, y2, hy⟩ := near_sub (l := putV F v (bs.take j) v) (k := b.toNat) (by rw [hPl]; omega)
             have hat := hO8.vat _ _ hy
             obtain ⟨g', o', eg, hg', o0, o1⟩ := hat
             obtain ⟨rfl, rfl⟩ : go = g' ∧ 0 = o' := by simpa using eg
             have ofz : ∀ o, w8.frozen? ⟨go, o, none⟩ = false := fun o => World.ownsRow.frozenAt hO8 o
             have HO8 := hQ0 hO8
             rw [Nat.zero_add] at o0 o1
             simp only at o0 o1
             have hgv8 : gv < w8.heap.size := by have := HB5.out.size; omega
             have v0' : w8.cell? ⟨gv, ov + b.toNat * 2, none⟩ = _ := ((HB5.out.trans (HB8.out.mono (by have := HB5.out.size; omega))).cell (p := ⟨gv, ov + b.toNat * 2, none⟩) hgv).trans v0
             have v1' : w8.cell? ⟨gv, ov + b.toNat * 2 + 1, none⟩ = _ := ((HB5.out.trans (HB8.out.mono (by have := HB5.out.size; omega))).cell (p := ⟨gv, ov + b.toNat * 2 + 1, none⟩) hgv).trans v1
             have hww := HB2.out.size
             have hne : ¬ gv = go := by omega
             have hne2 : ¬ go = gv := by omega
             have i1 : b < ((putV F v (bs.take j) v).length : Int) := by rw [hPl]; exact b1
             have HST := hQ0 (OwnW.stored hO8 (k := b.toNat) (by rw [hPl]; omega) X Y)
             rw [← HNV.out, ← HTA.out] at HST
             clear hO8 hy eg
             have HVD := hQ0 (show v.getD b.toNat (0, 0) = ((v.getD b.toNat (0, 0)).1, (v.getD b.toNat (0, 0)).2) from rfl)
             generalize hch : chgV F v (bs.take j) = ch at *
             generalize (v.getD b.toNat (0, 0)).1 = p at *
             generalize (v.getD b.toNat (0, 0)).2 = q' at *
             have HI8 := hQ0 (HJ.out.2.1.bel HB8.out (Nat.le_refl _))
             have HB28 := hQ0 (HJ.out.2.2.1.trans (HB8.out.mono (by have := HJ.out.2.2.1.size; omega)))
             have hgo8 : go < w8.heap.size := hg'
             have h35 := HJ.out.2.2.2
             go_wp2_with fail
             clear hch
             (refine pin_wp (N := _) (Nat.le_refl _) (fun w9 hb_w9 hz_w9 => ?_); (try simp at hz_w9))
             have p0 : w9.cell? ⟨go, b.toNat * 2, none⟩ = some (.int .i64 X) := (hb_w9.cell (by simp; omega)).trans (by go_simp)
             have p1 : w9.cell? ⟨go, b.toNat * 2 + 1, none⟩ = some (.int .i64 Y) := (hb_w9.cell (by simp; omega)).trans (by go_simp)
             have q0 : w9.cell? ⟨gv, ov + b.toNat * 2, none⟩ = some (.int .i64 p) := (hb_w9.cell (by simp; omega)).trans (by go_simp)
             have q1 : w9.cell? ⟨gv, ov + b.toNat * 2 + 1, none⟩ = some (.int .i64 q') := (hb_w9.cell (by simp; omega)).trans (by go_simp)
             have HO9 := hQ0 (HST.out.bel hb_w9 (Nat.le_refl _))
             have HI9 := hQ0 (((HI8.out.low (p := ⟨go, b.toNat * 2, none⟩) hgo2 (.int .i64 X)).low (p := ⟨go, b.toNat * 2 + 1, none⟩) hgo2 (.int .i64 Y)).bel hb_w9 (Nat.le_refl _))
             have HB9 := hQ0 (((HB28.out.setCell (p := ⟨go, b.toNat * 2, none⟩) hgo (.int .i64 X)).setCell (p := ⟨go, b.toNat * 2 + 1, none⟩) hgo (.int .i64 Y)).trans (hb_w9.mono (by have := HB28.out.size; simp; omega)))
             have hgo9 : go < w9.heap.size := by omega
             have hgv9 : gv < w9.heap.size := by omega
             clear o0 o1 v0' v1' v0 v1 hb_w9 ofz cb hgo8 hgv8 hg'
             have hcase : ch = true ∨ (ch = false ∧ ¬ X = p) ∨ (ch = false ∧ X = p ∧ ¬ Y = q') ∨ (ch = false ∧ X = p ∧ Y = q') := by
              cases ch
              · by_cases h1 : X = p
                · by_cases h2 : Y = q'
                  · exact .inr (.inr (.inr ⟨rfl, h1, h2⟩))
                  · exact .inr (.inr (.inl ⟨rfl, h1, h2⟩))
                · exact .inr (.inl ⟨rfl, h1⟩)
              · exact .inl rfl
             have HCC := hQ0 HTC.out
             rw [HNV.out, HVD.out] at HCC
             clear HTC HNV HVD HTA HST
             rcases hcase with rfl | ⟨rfl, hx1⟩ | ⟨rfl, rfl, hx1⟩ | ⟨rfl, rfl, rfl⟩
             all_goals
              refine wp_region_warm (Own w9.heap.size w9) (by kernel_rfl) (by kernel_rfl) (Own.refl (Nat.le_refl _)).drew ?_
              repeat (first | (refine wpWarm_step_off rfl (fun K hK => ?_); (go_simp; refine hK _ ?_; clear hK K)) | (apply wpWarm_step rfl; (focus (intro W' hS; have hcS := hS.cells; go_simp; (first | done | exact rfl | exact ⟨rfl, hS⟩ | (go_simp; exact rfl)))); (intro K hK; go_simp; (try go_bits); refine hK _ ?_; clear hK K)) | (apply wpWarm_step_on rfl; (focus (intro W' hS; have hcS := hS.cells; go_simp; (first | done | exact rfl | exact ⟨rfl, hS⟩ | (go_simp; exact rfl)))); (intro K hK; go_simp; (try go_bits); refine hK _ ?_; clear hK K)))
              (refine wpWarm_nil ?_; intro w10 hO; have hz_w10 := hO.1; have hb_w10 := hO.2; clear hO; skip)
              have HB10 := hQ0 (HB9.out.trans (hb_w10.mono (by have := HB9.out.size; omega)))
              have HO10 := hQ0 (HO9.out.bel hb_w10 (Nat.le_refl _))
              have HI10 := hQ0 (HI9.out.bel hb_w10 (Nat.le_refl _))
              have hz310 : w3.heap.size ≤ w10.heap.size := by omega
              clear hb_w10 p0 p1 q0 q1
              go_wp2_with fail
              go_roundw
              case rel => exact ⟨j + 1, by omega, by go_num, by rw [HCC.out]; simp_all, hQ0 ⟨HO10.out, HI10.out, HB10.out, hz310⟩⟩
              case measure => simp [intOf]; omega
        · obtain rfl : j = bs.length := by omega
          have HJ' := HJ.out
          rw [List.take_length] at HJ' ⊢
          have hPl : (putV F v bs v).length = v.length := putV_len _ _ _ _
          have HO9 := hQ0 HJ'.1
          have HB9 := hQ0 (HB2.out.trans (HJ'.2.2.1.mono (by have := HB2.out.size; omega)))
          clear HJ HJ' HBI HAO HPE
          go_wp2_with fail
          refine bodyPost_ret (v := .tuple #[.slice O v.length qo, .bool (chgV F v bs), .int .i64 0]) (by (try simp only [results, Tryz.results6]); (try go_simp)) rfl ⟨?_, ?_⟩
          · exact HB9.out
          · exact ⟨O, qo, by rw [hPl], HO9.out.vat⟩
def hasB (x : Ct) (n : Int) : Bool := x.b == n || (x.k == 5 && x.i == n)
def shareB (x y : Ct) : Bool := hasB x y.b || (y.k == 5 && hasB x y.i)
theorem shareB_symm (x y : Ct) : shareB x y = shareB y x := by
 rw [Bool.eq_iff_iff]
 unfold shareB hasB
 simp only [Bool.or_eq_true, Bool.and_eq_true, beq_iff_eq]
 constructor <;> (intro h; omega)
set_option maxHeartbeats 1000000 in
theorem share1_any (x : Ct) (n : Int) (w : World) :
  Calls Tryz.prog 81 #[x.v, .int .i64 n] w fun e w' => e = .returned (.bool (hasB x n)) ∧ Below w.heap.size w w' := by
 obtain ⟨b, k, i, r0, r1, r2, r3, r4, r5, r6⟩ := x
 unfold hasB Ct.v
 simp only
 go_enter Tryz.func81, Tryz.ntmps81; (try simp only [List.append_eq, List.cons_append, List.nil_append])
 cases h1 : (b == n) <;> cases h2 : (k == 5) <;> cases h3 : (i == n)
 all_goals
  go_wp2
  go_ret
  exact ⟨rfl, by ((with_reducible (repeat (first | exact bR _ _ | apply bS | apply bA | apply bD | refine bT ?_ (by assumption) ?_ | refine bO (by assumption) ?_ ?_))) <;> (first | omega | (simp <;> omega)))⟩
set_option maxHeartbeats 2000000 in
theorem share_any (x y : Ct) (w : World) :
  Calls Tryz.prog 49 #[x.v, y.v] w fun e w' => e = .returned (.bool (shareB x y)) ∧ Below w.heap.size w w' := by
 have k1 := fun w => share1_any x y.b w
 have k2 := fun w => share1_any x y.i w
 unfold shareB
 generalize hasB x y.b = c1 at *
 generalize hasB x y.i = c2 at *
 obtain ⟨b, k, i, r0, r1, r2, r3, r4, r5, r6⟩ := x
 obtain ⟨b', k', i', q0, q1, q2, q3, q4, q5, q6⟩ := y
 simp only [Ct.v] at *
 have K1 := hQ0 k1
 have K2 := hQ0 k2
 clear k1 k2
 cases c1
 · cases h5 : (k' == 5)
   · go_enter Tryz.func49, Tryz.ntmps49; (try simp only [List.append_eq, List.cons_append, List.nil_append])
     go_wp2_with fail
     (go_at_call 81; refine (K1.out _).mono ?_; rintro e w1 ⟨rfl, hb_w1⟩; have hz_w1 := hb_w1.size; (try simp at hz_w1); (with_reducible apply cel10 (b := w.heap.size) hb_w1); ((try simp) <;> omega); omega; (iterate 10 (focus (go_simp; try exact rfl))); (intro o; go_simp); intro cc cc cc cc cc cc cc cc cc cc fz hl; (with_reducible apply cel10 (b := w.heap.size + 1) hb_w1); ((try simp) <;> omega); omega; (iterate 10 (focus (go_simp; try exact rfl))); (intro o; go_simp); intro cc cc cc cc cc cc cc cc cc cc fz hl)
     go_wp2_with fail
     go_ret
     exact ⟨rfl, by ((with_reducible (repeat (first | exact bR _ _ | apply bS | apply bA | apply bD | refine bT ?_ (by assumption) ?_ | refine bO (by assumption) ?_ ?_))) <;> (first | omega | (simp <;> omega)))⟩
   · go_enter Tryz.func49, Tryz.ntmps49; (try simp only [List.append_eq, List.cons_append, List.nil_append])
     go_wp2_with fail
     (go_at_call 81; refine (K1.out _).mono ?_; rintro e w1 ⟨rfl, hb_w1⟩; have hz_w1 := hb_w1.size; (try simp at hz_w1); (with_reducible apply cel10 (b := w.heap.size) hb_w1); ((try simp) <;> omega); omega; (iterate 10 (focus (go_simp; try exact rfl))); (intro o; go_simp); intro cc cc cc cc cc cc cc cc cc cc fz hl; (with_reducible apply cel10 (b := w.heap.size + 1) hb_w1); ((try simp) <;> omega); omega; (iterate 10 (focus (go_simp; try exact rfl))); (intro o; go_simp); intro cc cc cc cc cc cc cc cc cc cc fz hl)
     go_wp2_with fail
     (go_at_call 81; refine (K2.out _).mono ?_; rintro e w2 ⟨rfl, hb_w2⟩; have hz_w2 := hb_w2.size; (try simp at hz_w2); (with_reducible apply cel10 (b := w.heap.size) hb_w2); ((try simp) <;> omega); omega; (iterate 10 (focus (go_simp; try exact rfl))); (intro o; go_simp); intro cc cc cc cc cc cc cc cc cc cc fz hl; (with_reducible apply cel10 (b := w.heap.size + 1) hb_w2); ((try simp) <;> omega); omega; (iterate 10 (focus (go_simp; try exact rfl))); (intro o; go_simp); intro cc cc cc cc cc cc cc cc cc cc fz hl)
     cases c2
     all_goals
      go_wp2_with fail
      go_ret
      exact ⟨rfl, by ((with_reducible (repeat (first | exact bR _ _ | apply bS | apply bA | apply bD | refine bT ?_ (by assumption) ?_ | refine bO (by assumption) ?_ ?_))) <;> (first | omega | (simp <;> omega)))⟩
 · go_enter Tryz.func49, Tryz.ntmps49; (try simp only [List.append_eq, List.cons_append, List.nil_append])
   go_wp2_with fail
   (go_at_call 81; refine (K1.out _).mono ?_; rintro e w1 ⟨rfl, hb_w1⟩; have hz_w1 := hb_w1.size; (try simp at hz_w1); (with_reducible apply cel10 (b := w.heap.size) hb_w1); ((try simp) <;> omega); omega; (iterate 10 (focus (go_simp; try exact rfl))); (intro o; go_simp); intro cc cc cc cc cc cc cc cc cc cc fz hl; (with_reducible apply cel10 (b := w.heap.size + 1) hb_w1); ((try simp) <;> omega); omega; (iterate 10 (focus (go_simp; try exact rfl))); (intro o; go_simp); intro cc cc cc cc cc cc cc cc cc cc fz hl)
   go_wp2_with fail
   go_ret
   exact ⟨rfl, by ((with_reducible (repeat (first | exact bR _ _ | apply bS | apply bA | apply bD | refine bT ?_ (by assumption) ?_ | refine bO (by assumption) ?_ ?_))) <;> (first | omega | (simp <;> omega)))⟩
def DAt (w : World) (D : Nat) (d : List Bool) : Prop := D < w.heap.size ∧ (∀ o, w.frozen? ⟨D, o, none⟩ = false) ∧ ∀ j x, d[j]? = some x → w.cell? ⟨D, j, none⟩ = some (.bool x)
theorem DAt.block {w w' : World} {D : Nat} {d : List Bool} (h : DAt w D d) (hs : w.heap.size ≤ w'.heap.size) (hb : w'.heap[D]? = w.heap[D]?) : DAt w' D d :=
 ⟨Nat.lt_of_lt_of_le h.1 hs, fun o => (World.frozen?_of_block (a := ⟨D, o, none⟩) hb).trans (h.2.1 o), fun j x hx => (World.cell?_of_block (a := ⟨D, j, none⟩) hb).trans (h.2.2 j x hx)⟩
theorem DAt.below {w w' : World} {D B : Nat} {d : List Bool} (h : DAt w D d) (hb : Below B w w') (hD : D < B) : DAt w' D d := h.block hb.size (hb.block D hD)
theorem DAt.alloc {w : World} {D : Nat} {d : List Bool} (h : DAt w D d) (o : Obj) : DAt (w.alloc o) D d := h.block (by simp) (heap_alloc_old w o h.1)
theorem DAt.grown {w w' : World} {D : Nat} {d : List Bool} {row : Option Nat} (h : DAt w D d) (hg : w.grownBy w' row) (hne : some D ≠ row) : DAt w' D d := h.block hg.size (hg.block D h.1 hne)
theorem DAt.set {w : World} {D k : Nat} {d : List Bool} {b x : Bool} (h : DAt w D d) (hk : d[k]? = some x) : DAt (w.setCell ⟨D, k, none⟩ (.bool b)) D (d.set k b) := by
 have hc := h.2.2 k x hk
 refine ⟨by simpa using h.1, fun o => by go_simp; exact h.2.1 o, fun j y hy => ?_⟩
 rw [List.getElem?_set] at hy
 by_cases e : k = j
 · subst e
   rw [if_pos rfl, if_pos (List.getElem?_eq_some_iff.1 hk).1] at hy
   obtain rfl := Option.some.inj hy
   go_simp
 · rw [if_neg e] at hy
   have := h.2.2 j y hy
   have e2 : (⟨D, k, none⟩ : Addr) ≠ ⟨D, j, none⟩ := fun h => e (congrArg Addr.off h)
   first | (go_simp; exact this) | (go_simp; rw [if_neg e]; exact this) | (go_simp; done) | simp_all
theorem madeB_get (n j : Nat) : (madeCells #[Value.bool false] n)[j]? = if j < n then some (.bool false) else none := by
 unfold madeCells
 by_cases h : j < n
 · rw [if_pos h]; simp [h, Nat.mod_one]
 · rw [if_neg h]; simp; omega
theorem DAt.made (w : World) (n : Nat) (e : TypeId) : DAt (w.alloc (.cells (madeCells #[Value.bool false] n) e)) w.heap.size (List.replicate n false) := by
 refine ⟨by simp, fun o => by go_simp, fun j x hx => ?_⟩
 rw [List.getElem?_replicate] at hx
 split at hx
 · rename_i hj
   obtain rfl := Option.some.inj hx
   rw [cell_of_row (w.alloc _) w.heap.size j _ e (0, 0) (heap_alloc_new w _), madeB_get, if_pos hj]
 · cases hx
def Same (base top : Nat) (w w' : World) : Prop := w.heap.size ≤ w'.heap.size ∧ ∀ b, base ≤ b → b < top → w'.heap[b]? = w.heap[b]?
theorem Same.refl (base top : Nat) (w : World) : Same base top w w := ⟨Nat.le_refl _, fun _ _ _ => rfl⟩
theorem Same.trans {base top : Nat} {a b c : World} (h : Same base top a b) (g : Same base top b c) : Same base top a c := ⟨Nat.le_trans h.1 g.1, fun k h1 h2 => (g.2 k h1 h2).trans (h.2 k h1 h2)⟩
theorem Same.below {base top B : Nat} {a b c : World} (h : Same base top a b) (g : Below B b c) (hB : top ≤ B) : Same base top a c := h.trans ⟨g.size, fun k _ h2 => g.block k (by omega)⟩
theorem Same.grown {base top : Nat} {a b c : World} {row : Option Nat} (h : Same base top a b) (g : b.grownBy c row) (hr : ∀ k, row = some k → top ≤ k) (ht : top ≤ b.heap.size) : Same base top a c :=
 h.trans ⟨g.size, fun k _ h2 => g.block k (by omega) (fun e => by have := hr k e.symm; omega)⟩
theorem Same.alloc {base top : Nat} {a b : World} (h : Same base top a b) (ht : top ≤ b.heap.size) (o : Obj) : Same base top a (b.alloc o) := h.trans ⟨by simp, fun k _ h2 => heap_alloc_old b o (by omega)⟩
theorem Same.low {base top : Nat} {a b : World} (h : Same base top a b) {p : Addr} (hp : p.block < base) (u : Value) : Same base top a (b.setCell p u) := h.trans ⟨by simp, fun k h1 h2 => Below.heap_setCell _ _ _ _ (by omega)⟩
theorem ownsRow_block {w w' : World} {base size n : Nat} {e : TypeId} {v : Value} {xs : List Value} (h : w.ownsRow base e size v n xs) (hs : ∀ b, v.ownBlock = some b → w'.heap[b]? = w.heap[b]?) : w'.ownsRow base e size v n xs := by
 refine ⟨h.1, ?_⟩
 rcases h.2 with hn | ⟨g, cap, cur, rfl, hb, hgg, rest⟩
 · exact .inl hn
 · exact .inr ⟨g, cap, cur, rfl, hb, by rw [hs g rfl]; exact hgg, rest⟩
def GsOwn (w : World) (base top : Nat) (A : Option Addr) (c : Nat) (gs : List (List Int)) : Prop :=
  ∃ vs : List Value, w.ownsRow base 33 1 (.slice A gs.length c) gs.length vs ∧ vs.length = gs.length ∧ (∀ b, Value.ownBlock (.slice A gs.length c) = some b → b < top) ∧
    ∀ (k : Nat) (g : List Int), gs[k]? = some g → ∃ B d, vs[k]? = some (Value.slice B g.length d) ∧ OwnI w base B d g ∧ ∀ b, Value.ownBlock (.slice B g.length d) = some b → b < top
theorem GsOwn.nil (w : World) (base top : Nat) : GsOwn w base top none 0 [] := ⟨[], World.ownsRow_nil _ _ _ _, rfl, fun b h => by simp [Value.ownBlock] at h, fun k g h => by simp at h⟩
theorem GsOwn.same {w w' : World} {base top : Nat} {A : Option Addr} {c : Nat} {gs : List (List Int)} (h : GsOwn w base top A c gs) (hs : Same base top w w') : GsOwn w' base top A c gs := by
 obtain ⟨vs, h1, h2, h3, h4⟩ := h
 refine ⟨vs, ownsRow_block h1 fun b hb => hs.2 b (h1.lt b hb).1 (h3 b hb), h2, h3, fun k g hk => ?_⟩
 obtain ⟨B, d, e1, e2, e3⟩ := h4 k g hk
 exact ⟨B, d, e1, ownsRow_block e2 fun b hb => hs.2 b (e2.lt b hb).1 (e3 b hb), e3⟩
theorem GsOwn.snoc {w w' : World} {base top : Nat} {A : Option Addr} {c : Nat} {gs : List (List Int)} {B : Option Addr} {d : Nat} {g : List Int} {vs : List Value} {v' : Value} (ht : top ≤ w.heap.size)
  (h1 : w.ownsRow base 33 1 (.slice A gs.length c) gs.length vs) (h2 : vs.length = gs.length)
  (h4 : ∀ (k : Nat) (g : List Int), gs[k]? = some g → ∃ B d, vs[k]? = some (Value.slice B g.length d) ∧ OwnI w base B d g ∧ ∀ b, Value.ownBlock (.slice B g.length d) = some b → b < top)
  (hg : OwnI w base B d g) (hw : w'.ownsRow base 33 1 v' (gs.length + 1) (vs ++ [Value.slice B g.length d])) (hgr : w.grownBy w' (Value.ownBlock (.slice A gs.length c))) :
  ∃ A' c', v' = .slice A' (gs ++ [g]).length c' ∧ GsOwn w' base w'.heap.size A' c' (gs ++ [g]) := by
 obtain ⟨A', c', rfl⟩ := own_slice hw
 refine ⟨A', c', by simp, vs ++ [Value.slice B g.length d], by simpa using hw, by simp [h2], fun b hb => ?_, fun k x hx => ?_⟩
 · have := (hw.lt b (by simpa [Value.ownBlock] using hb)).2
   exact this
 · rcases Nat.lt_or_ge k gs.length with hk | hk
   · rw [List.getElem?_append_left hk] at hx
     obtain ⟨B', d', e1, e2, e3⟩ := h4 k x hx
     have e2' : OwnI w' base B' d' x := OwnI.kept e2 hgr (rowsApart e2 h1 (by decide))
     refine ⟨B', d', by rw [List.getElem?_append_left (by omega)]; exact e1, e2', fun b hb => (World.ownsRow.lt e2' b hb).2⟩
   · rw [List.getElem?_append_right hk] at hx
     have hk0 : k = gs.length := by
      have := (List.getElem?_eq_some_iff.1 hx).1
      simp at this; omega
     subst hk0
     rw [Nat.sub_self] at hx
     simp only [List.getElem?_cons_zero, Option.some.injEq] at hx
     subst hx
     have e2' : OwnI w' base B d g := OwnI.kept hg hgr (rowsApart hg h1 (by decide))
     exact ⟨B, d, by rw [← h2]; simp, e2', fun b hb => (World.ownsRow.lt e2' b hb).2⟩
def GsAt (w : World) (A : Option Addr) (gs : List (List Int)) : Prop := ∀ (k : Nat) (g : List Int), gs[k]? = some g → ∃ b o B d, A = some ⟨b, o, none⟩ ∧ b < w.heap.size ∧ w.cell? ⟨b, o + k, none⟩ = some (.slice B g.length d) ∧ IAt w B g
theorem GsOwn.at {w : World} {base top : Nat} {A : Option Addr} {c : Nat} {gs : List (List Int)} (h : GsOwn w base top A c gs) : GsAt w A gs := fun k g hk => by
 obtain ⟨vs, h1, h2, h3, h4⟩ := h
 obtain ⟨B, d, e1, e2, e3⟩ := h4 k g hk
 have hk' := (List.getElem?_eq_some_iff.1 hk).1
 rcases own_formS h1 with ⟨hn, _⟩ | ⟨_, b, c', hv, _, hb, _⟩
 · omega
 · simp only [Value.slice.injEq, true_and] at hv
   obtain ⟨rfl, rfl⟩ := hv
   refine ⟨b, 0, B, d, rfl, hb, ?_, e2.iat⟩
   rw [Nat.zero_add, World.ownsRow.cellAt h1 k (by omega)]
   exact e1
def GOut (gs : List (List Int)) (w : World) (e : Ending) (w' : World) : Prop := Below w.heap.size w w' ∧ ∃ A c, e = .returned (.slice A gs.length c) ∧ GsAt w' A gs
def shL (l : List Ct) (a b : Nat) : Bool := match l[a]?, l[b]? with
  | some x, some y => shareB x y
  | _, _ => false
theorem shL_symm (l : List Ct) (a b : Nat) : shL l a b = shL l b a := by
 unfold shL
 cases l[a]? <;> cases l[b]? <;> first | rfl | exact shareB_symm _ _
theorem shL_get {l : List Ct} {a b : Nat} {x y : Ct} (h1 : l[a]? = some x) (h2 : l[b]? = some y) : shL l a b = shareB x y := by
 unfold shL; rw [h1, h2]
noncomputable def groupsL (l : List Ct) (m : Nat) : List (List Int) := (groupsTo l.length (shL l) m).map natI
theorem infB : (Tryz.prog.info? 4).map (fun i => (i.zero, i.size, i.bytes)) = some (some (.bool false), 1, 1) := by kernel_rfl
theorem infIs : (Tryz.prog.info? 33).map (fun i => (i.zero, i.size, i.bytes)) = some (some (.slice none 0 0), 1, 24) := by kernel_rfl
theorem groupsL_old {l : List Ct} {m : Nat} (h : Old l.length (shL l) m m) : groupsL l (m + 1) = groupsL l m := by unfold groupsL; rw [groupsTo_old h]
theorem groupsL_new {l : List Ct} {m : Nat} (h : ¬ Old l.length (shL l) m m) : groupsL l (m + 1) = groupsL l m ++ [natI (grpOf l.length (shL l) m)] := by unfold groupsL; rw [groupsTo_new h, List.map_append]; rfl
theorem groupsL_len (l : List Ct) (m : Nat) : (groupsL l m).length ≤ m := by unfold groupsL; rw [List.length_map]; exact groupsTo_len _ _ _
theorem natI_len (l : List Nat) : (natI l).length = l.length := by simp [natI]
theorem natI_get {l : List Nat} {k a : Nat} (h : l[k]? = some a) : (natI l)[k]? = some (a : Int) := by unfold natI; rw [List.getElem?_map, h]; rfl
theorem natI_snoc (l : List Nat) (k : Nat) : natI (l ++ [k]) = natI l ++ [(k : Int)] := by simp [natI]
set_option maxRecDepth 100000 in
set_option maxHeartbeats 40000000 in
theorem groups_any (l : List Ct) (A : Option Addr) (c : Nat) (w : World) (hV : CAt w A l) (hl : l.length ≤ 1000) :
  Calls Tryz.prog 18 #[.slice A l.length c] w (GOut (groupsL l l.length) w) := by
 have HV := hQ0 hV
 obtain ⟨n, hn⟩ : ∃ n, n = l.length := ⟨_, rfl⟩
 have hmk := fun w => run_make_row' (P := Tryz.prog) 94 4 (.bool false) 1 Tryz.underlying94 infB rfl .i64 .i64 n (by omega) (by omega) w
 have HN := hQ0 hn
 rw [← hn] at hl ⊢
 have n0 : (0 : Int) ≤ (n : Int) := by omega
 have ks := fun (x y : Ct) (w : World) => share_any x y w
 have KS := hQ0 ks
 clear hV hn ks
 go_enter Tryz.func18, Tryz.ntmps18; (try simp only [List.append_eq, List.cons_append, List.nil_append])
 go_wp2_with fail
 clear hmk
 go_loopw [3, 14] (fun t3 t14 wr => ∃ (i : Nat) (d : List Bool) (B : Option Addr) (e : Nat), i ≤ n ∧ t14 = .int .i64 i ∧ t3 = .slice B (groupsL l i).length e ∧ Hid (DoneI n (shL l) i d ∧ DAt wr w.heap.size d ∧ GsOwn wr (w.heap.size + 1) wr.heap.size B e (groupsL l i) ∧ Below w.heap.size w wr ∧ w.heap.size + 1 ≤ wr.heap.size)) (fun _ t14 _ => n - (intOf t14).toNat)
 case atStart =>
  refine ⟨0, List.replicate n false, none, 0, by omega, rfl, rfl, hQ0 ⟨DoneI.zero n _, DAt.made w n _, ?_, by ((with_reducible (repeat (first | exact bR _ _ | apply bS | apply bA | apply bD | refine bT ?_ (by assumption) ?_ | refine bO (by assumption) ?_ ?_))) <;> (first | omega | (simp <;> omega))), by simp⟩⟩
  exact GsOwn.nil _ _ _
 case round =>
  obtain ⟨i, d, B, e, hi, rfl, rfl, HR⟩ := hrel
  obtain ⟨w0, rfl⟩ : ∃ z, z = wr := ⟨_, rfl⟩
  have i1 : (0 : Int) ≤ (i : Int) := by omega
  by_cases hlt : i < n
  · have i2 : (i : Int) < (n : Int) := by omega
    obtain ⟨b, hb⟩ : ∃ b, d[i]? = some b := ⟨d[i]'(by rw [HR.out.1.1]; exact hlt), by simp⟩
    have hc := HR.out.2.1.2.2 i b hb
    have hfz := HR.out.2.1.2.1
    have hD := HR.out.2.2.2.2
    have HBD := hQ0 hb
    clear hb
    cases b
    · have HG := hQ0 (GI.start HR.out.1 hlt HBD.out)
      have HDA := hQ0 (HR.out.2.1.set (b := true) HBD.out)
      have hcs : (w0.setCell ⟨w.heap.size, i, none⟩ (.bool true)).cell? ⟨w.heap.size, i, none⟩ = some (.bool true) := by go_simp
      have HS0 := hQ0 (show Same (w.heap.size + 1) w0.heap.size w0 ((w0.setCell ⟨w.heap.size, i, none⟩ (.bool true)).alloc (.cells #[.int .i64 i] 3)) from ((Same.refl _ _ _).low (by simp) _).alloc (by simp) _)
      have HB0 := hQ0 (show Below w.heap.size w ((w0.setCell ⟨w.heap.size, i, none⟩ (.bool true)).alloc (.cells #[.int .i64 i] 3)) by have hB := HR.out.2.2.2.1; ((with_reducible (repeat (first | exact bR _ _ | apply bS | apply bA | apply bD | refine bT ?_ (by assumption) ?_ | refine bO (by assumption) ?_ ?_))) <;> (first | omega | (simp <;> omega))))
      have HD0 := hQ0 (HDA.out.alloc (.cells #[.int .i64 i] 3))
      have HI0 := hQ0 (show OwnI ((w0.setCell ⟨w.heap.size, i, none⟩ (.bool true)).alloc (.cells #[.int .i64 i] 3)) w0.heap.size (some ⟨w0.heap.size, 0, none⟩) 1 (natI [i]) from by
       have := own_new (w0.setCell ⟨w.heap.size, i, none⟩ (.bool true)) w0.heap.size 3 1 1 #[.int .i64 i] (by simp) rfl (by decide)
       simpa [OwnI, natI] using this)
      clear hcs HDA
      go_wp2_with fail
      clear hc hfz
      go_loopw [6, 7] (fun t6 t7 wr => ∃ (p : Nat) (d : List Bool) (g : List Nat) (G : Option Addr) (q : Nat), p ≤ g.length ∧ g.length ≤ n ∧ t7 = .int .i64 p ∧ t6 = .slice G (natI g).length q ∧ Hid (GI n (shL l) i d g p 0 ∧ DAt wr w.heap.size d ∧ OwnI wr w0.heap.size G q (natI g) ∧ Same (w.heap.size + 1) w0.heap.size w0 wr ∧ Below w.heap.size w wr)) (fun _ t7 _ => n - (intOf t7).toNat)
      case atStart => exact ⟨0, d.set i true, [i], some ⟨w0.heap.size, 0, none⟩, 1, by simp, by simp; omega, rfl, rfl, hQ0 ⟨HG.out, HD0.out, HI0.out, HS0.out, HB0.out⟩⟩
      case round =>
       clear HD0 HI0 HS0 HB0 HG
       obtain ⟨p, d1, g, G, q, hp, hgn, rfl, rfl, HL⟩ := hrel
       obtain ⟨w1, rfl⟩ : ∃ z, z = wr := ⟨_, rfl⟩
       have p1 : (0 : Int) ≤ (p : Int) := by omega
       by_cases hpl : p < g.length
       · have p2 : (p : Int) < ((natI g).length : Int) := by rw [natI_len]; omega
         obtain ⟨a, ha⟩ : ∃ a, g[p]? = some a := ⟨g[p], by simp⟩
         have HA := hQ0 ha
         have han := (HL.out.1.mem a (List.mem_of_getElem? ha)).1
         have a1 : (0 : Int) ≤ (a : Int) := by omega
         have a2 : (a : Int) < (n : Int) := by omega
         obtain ⟨x, hx⟩ : ∃ x, l[a]? = some x := ⟨l[a]'(by rw [← HN.out]; exact han), by simp⟩
         have HX := hQ0 hx
         clear ha hx
         go_wp2_with fail
         go_loopw [6, 34] (fun t6 t34 wr => ∃ (k : Nat) (d : List Bool) (h : List Nat) (G : Option Addr) (q : Nat), k ≤ n ∧ t34 = .int .i64 k ∧ t6 = .slice G (natI h).length q ∧ Hid (h[p]? = some a ∧ GI n (shL l) i d h p k ∧ DAt wr w.heap.size d ∧ OwnI wr w0.heap.size G q (natI h) ∧ Same (w.heap.size + 1) w0.heap.size w0 wr ∧ Below w.heap.size w wr)) (fun _ t34 _ => n - (intOf t34).toNat)
         case atStart => exact ⟨0, d1, g, G, q, by omega, rfl, rfl, hQ0 ⟨HA.out, HL.out⟩⟩
         case round =>
          clear HL HA hp hgn hpl p2
          obtain ⟨k, d2, h, G2, q2, hk, rfl, rfl, HM⟩ := hrel
          obtain ⟨w2, rfl⟩ : ∃ z, z = wr := ⟨_, rfl⟩
          have k1 : (0 : Int) ≤ (k : Int) := by omega
          have hph := (List.getElem?_eq_some_iff.1 HM.out.1).1
          have p2 : (p : Int) < ((natI h).length : Int) := by rw [natI_len]; omega
          have hhn := HM.out.2.1.len_le
          by_cases hkn : k < n
          · have k2 : (k : Int) < (n : Int) := by omega
            obtain ⟨y, hy⟩ : ∃ y, l[k]? = some y := ⟨l[k]'(by rw [← HN.out]; exact hkn), by simp⟩
            have HY := hQ0 hy
            obtain ⟨b, hb⟩ : ∃ b, d2[k]? = some b := ⟨d2[k]'(by rw [HM.out.2.1.len]; exact hkn), by simp⟩
            have HBD2 := hQ0 hb
            have hsh := shL_get HX.out hy
            have ks := fun w => KS.out x y w
            generalize shareB x y = S at hsh ks
            have HSH := hQ0 hsh
            clear hy hb hsh
            obtain ⟨gl, ol, rfl, hgl, x0, x1, x2, x3, x4, x5, x6, x7, x8, x9⟩ := (HV.out.below HM.out.2.2.2.2.2 (Nat.le_refl _)) a _ HX.out
            obtain ⟨gl', ol', e0, _, y0, y1, y2, y3, y4, y5, y6, y7, y8, y9⟩ := (HV.out.below HM.out.2.2.2.2.2 (Nat.le_refl _)) k _ HY.out
            obtain ⟨rfl, rfl⟩ : gl = gl' ∧ ol = ol' := by simpa using e0
            clear e0
            obtain ⟨gg, og, rfl, hgg, c0⟩ := HM.out.2.2.2.1.iat p _ (natI_get HM.out.1)
            have cd := HM.out.2.2.1.2.2 k b HBD2.out
            have cf := HM.out.2.2.1.2.1
            have hD2 := HM.out.2.2.1.1
            obtain ⟨xb, xk, xi, xr0, xr1, xr2, xr3, xr4, xr5, xr6⟩ := x
            obtain ⟨yb, yk, yi, yr0, yr1, yr2, yr3, yr4, yr5, yr6⟩ := y
            simp only [Ct.v] at ks x0 x1 x2 x3 x4 x5 x6 x7 x8 x9 y0 y1 y2 y3 y4 y5 y6 y7 y8 y9
            have K1 := hQ0 ks
            clear ks
            cases b
            · go_wp2_with fail
              refine wp_region_warm (Own w2.heap.size w2) (by kernel_rfl) (by kernel_rfl) (Own.refl (Nat.le_refl _)).drew ?_
              repeat (first | (refine wpWarm_step_off rfl (fun K hK => ?_); (go_simp; refine hK _ ?_; clear hK K)) | (apply wpWarm_step rfl; (focus (intro W' hS; have hcS := hS.cells; go_simp; (first | done | exact rfl | exact ⟨rfl, hS⟩ | (go_at_call 49; exact (K1.out _).mono (fun _ _ h => ⟨h.1, hS.call h.2⟩)) | (go_simp; exact rfl)))); (intro K hK; go_simp; (try go_bits); refine hK _ ?_; clear hK K)) | (apply wpWarm_step_on rfl; (focus (intro W' hS; have hcS := hS.cells; go_simp; (first | done | exact rfl | exact ⟨rfl, hS⟩ | (go_at_call 49; exact (K1.out _).mono (fun _ _ h => ⟨h.1, hS.call h.2⟩)) | (go_simp; exact rfl)))); (intro K hK; go_simp; (try go_bits); refine hK _ ?_; clear hK K)))
              (refine wpWarm_nil ?_; intro w4 hO; have hz_w4 := hO.1; have hb_w4 := hO.2; clear hO; skip)
              have HB4 := hQ0 hb_w4
              have hS2 : w0.heap.size ≤ w2.heap.size := HM.out.2.2.2.2.1.1
              clear hb_w4 cd cf c0 x0 x1 x2 x3 x4 x5 x6 x7 x8 x9 y0 y1 y2 y3 y4 y5 y6 y7 y8 y9 K1
              cases S
              · go_wp2_with fail
                go_roundw
                case rel => exact ⟨k + 1, d2, h, _, q2, by omega, by go_num, rfl, hQ0 ⟨HM.out.1, HM.out.2.1.pass HM.out.1 hkn (.inr HSH.out), HM.out.2.2.1.below HB4.out hD2, HM.out.2.2.2.1.below HB4.out (Nat.le_refl _), HM.out.2.2.2.2.1.below HB4.out hS2, HM.out.2.2.2.2.2.trans (HB4.out.mono (by omega))⟩⟩
                case measure => simp [intOf]; omega
              · have HD4 := hQ0 (HM.out.2.2.1.below HB4.out hD2)
                have cd := HD4.out.2.2 k false HBD2.out
                have cf := HD4.out.2.1
                have HO4 := hQ0 (HM.out.2.2.2.1.below HB4.out (Nat.le_refl _))
                have HS4 := hQ0 (HM.out.2.2.2.2.1.below HB4.out hS2)
                have HW4 := hQ0 (HM.out.2.2.2.2.2.trans (HB4.out.mono (by omega)))
                have hz4' : w.heap.size ≤ w4.heap.size := by omega
                go_wp2_with (at_builtin; go_must (refine wpList_append_one rfl _ _ 33 3 _ 1 8 rfl Tryz.underlying33 infI rfl (by decide) (by decide) w0.heap.size _ (natI h).length ((natI h).map (Value.int .i64)) [.int .i64 (k : Int)] rfl (show OwnI _ w0.heap.size (some ⟨gg, og, none⟩) q2 (natI h) by ((repeat (first | (with_reducible exact HO4.out) | (with_reducible refine OwnI.low ?_ ?_ _) | (with_reducible refine OwnI.alloc ?_ _))) <;> first | omega | (simp <;> omega))) _ 1 rfl rfl (cell1 (by go_simp)) (by simp [Value.oneCell']) (by rw [natI_len]; omega) (by simp; omega) ?_))
                intro v1 w5 hown5 hg5 _
                obtain ⟨G5, q5, rfl, ho5⟩ := owni_snoc (l := natI h) hown5
                rw [← natI_snoc] at ho5 ⊢
                have hfr := HO4.out.fresh
                have HD5 := hQ0 (((HD4.out.set (b := true) HBD2.out).alloc _).grown hg5 (fun e => by have := hfr _ e.symm; omega))
                have HS5 := hQ0 (((HS4.out.low (p := ⟨w.heap.size, k, none⟩) (by simp) (.bool true)).alloc (by simp; omega) _).grown hg5 hfr (by simp; omega))
                have HW5 := hQ0 ((show Below w.heap.size w _ from (HW4.out.setCell (p := ⟨w.heap.size, k, none⟩) (Nat.le_refl _) (.bool true)).alloc (by simp; omega) _).grown hg5 (by simp; omega) (fun b hb => by have := hfr b hb; omega))
                have HO5 := hQ0 ho5
                clear hg5 hown5 ho5 cd cf hfr
                go_wp2_with fail
                go_roundw
                case rel => exact ⟨k + 1, d2.set k true, h ++ [k], G5, q5, by omega, by go_num, rfl, hQ0 ⟨by rw [List.getElem?_append_left hph]; exact HM.out.1, HM.out.2.1.add HM.out.1 hkn HBD2.out HSH.out, HD5.out, HO5.out, HS5.out, HW5.out⟩⟩
                case measure => simp [intOf]; omega
            · go_wp2_with fail
              refine wp_region_warm (Own w2.heap.size w2) (by kernel_rfl) (by kernel_rfl) (Own.refl (Nat.le_refl _)).drew ?_
              repeat (first | (refine wpWarm_step_off rfl (fun K hK => ?_); (go_simp; refine hK _ ?_; clear hK K)) | (apply wpWarm_step rfl; (focus (intro W' hS; have hcS := hS.cells; go_simp; (first | done | exact rfl | exact ⟨rfl, hS⟩ | (go_at_call 49; exact (K1.out _).mono (fun _ _ h => ⟨h.1, hS.call h.2⟩)) | (go_simp; exact rfl)))); (intro K hK; go_simp; (try go_bits); refine hK _ ?_; clear hK K)) | (apply wpWarm_step_on rfl; (focus (intro W' hS; have hcS := hS.cells; go_simp; (first | done | exact rfl | exact ⟨rfl, hS⟩ | (go_at_call 49; exact (K1.out _).mono (fun _ _ h => ⟨h.1, hS.call h.2⟩)) | (go_simp; exact rfl)))); (intro K hK; go_simp; (try go_bits); refine hK _ ?_; clear hK K)))
              (refine wpWarm_nil ?_; intro w4 hO; have hz_w4 := hO.1; have hb_w4 := hO.2; clear hO; skip)
              have HB4 := hQ0 hb_w4
              have hS2 : w0.heap.size ≤ w2.heap.size := HM.out.2.2.2.2.1.1
              clear hb_w4 cd cf c0 x0 x1 x2 x3 x4 x5 x6 x7 x8 x9 y0 y1 y2 y3 y4 y5 y6 y7 y8 y9 K1
              go_wp2_with fail
              go_roundw
              case rel => exact ⟨k + 1, d2, h, _, q2, by omega, by go_num, rfl, hQ0 ⟨HM.out.1, HM.out.2.1.pass HM.out.1 hkn (.inl HBD2.out), HM.out.2.2.1.below HB4.out hD2, HM.out.2.2.2.1.below HB4.out (Nat.le_refl _), HM.out.2.2.2.2.1.below HB4.out hS2, HM.out.2.2.2.2.2.trans (HB4.out.mono (by omega))⟩⟩
              case measure => simp [intOf]; omega
          · obtain rfl : k = n := by omega
            have HNX := hQ0 (HM.out.2.1.next hph)
            go_wp2_with fail
            go_roundw
            case rel => exact ⟨p + 1, d2, h, G2, q2, hph, hhn, by go_num, rfl, hQ0 ⟨HNX.out, HM.out.2.2⟩⟩
            case measure => simp [intOf]; omega
       · obtain rfl : p = g.length := by omega
         have p2 : ¬ ((g.length : Int) < ((natI g).length : Int)) := by rw [natI_len]; omega
         have HSG := hQ0 (show sortI (natI g) = natI (grpOf n (shL l) i) from sorted_grp (shL_symm l) HL.out.1)
         have HDN := hQ0 (HL.out.1.done (shL_symm l))
         have ks := fun W hW => sort_own (natI g) w0.heap.size G q W hW (by rw [natI_len]; omega)
         have KO := hQ0 ks
         have HNEW := hQ0 HL.out.1.new
         clear ks
         go_wp2_with fail
         (go_at_call 31; refine (KO.out _ HL.out.2.2.1).mono ?_; rintro e2 w2 ⟨rfl, ho2, hg2⟩)
         rw [HSG.out] at ho2
         have hlen : (natI g).length = (natI (grpOf n (shL l) i)).length := by rw [← HSG.out, sortI_len]
         have hfr := HL.out.2.2.1.fresh
         have hS1 : w0.heap.size ≤ w1.heap.size := HL.out.2.2.2.1.1
         have hz2 := hg2.size
         have HD2 := hQ0 (HL.out.2.1.grown hg2 (fun e => by have := hfr _ e.symm; omega))
         have HS2 := hQ0 (HL.out.2.2.2.1.grown hg2 hfr hS1)
         have HW2 := hQ0 (HL.out.2.2.2.2.grown hg2 (by omega) (fun b hb => by have := hfr b hb; omega))
         have HO2 := hQ0 ho2
         clear hg2 ho2 hfr
         rw [hlen]
         generalize hGG : natI (grpOf n (shL l) i) = GG at *
         obtain ⟨vs, r1, r2, r3, r4⟩ := (HR.out.2.2.1.same (HS2.out.alloc (by omega) (.cells #[.slice G GG.length q] 33)))
         have R1 := hQ0 r1
         have R2 := hQ0 r2
         have R4 := hQ0 r4
         have HX2 := hQ0 (OwnI.alloc HO2.out (.cells #[.slice G GG.length q] 33))
         have hgl := groupsL_len l i
         clear r1 r2 r3 r4
         go_wp2_with (at_builtin; go_must (refine wpList_append_one rfl _ _ 53 33 _ 1 24 rfl Tryz.underlying53 infIs rfl (by decide) (by decide) (w.heap.size + 1) _ (groupsL l i).length vs [.slice G GG.length q] rfl R1.out _ 1 rfl rfl (cell1 (by go_simp)) (by simp [Value.oneCell']) (by omega) (by simp; omega) ?_))
         intro v1 w5 hown5 hg5 _
         have hz5 := hg5.size
         have hz5' : w2.heap.size + 1 ≤ w5.heap.size := by simpa using hz5
         have hfr5 := fun b hb => (R1.out.lt b hb).1
         obtain ⟨B5, e5, rfl, hgs5⟩ := GsOwn.snoc (top := w0.heap.size) (by simp; omega) R1.out R2.out R4.out (OwnI.weaker HX2.out hD) hown5 hg5
         have HG5 := hQ0 hgs5
         have HD5 := hQ0 ((HD2.out.alloc _).grown hg5 (fun e => by have := hfr5 _ e.symm; omega))
         have HW5 := hQ0 ((HW2.out.alloc (by omega) _).grown hg5 (by simp; omega) (fun b hb => by have := hfr5 b hb; omega))
         have HGE := hQ0 (show groupsL l (i + 1) = groupsL l i ++ [GG] by rw [← hGG]; have := groupsL_new (l := l) (m := i) (by rw [← HN.out]; exact HNEW.out); rw [← HN.out] at this; exact this)
         clear hg5 hown5 hfr5 hgs5
         go_wp2_with fail
         go_roundw
         case rel => exact ⟨i + 1, d1, B5, e5, by omega, by go_num, by rw [HGE.out], hQ0 ⟨HDN.out, HD5.out, by rw [HGE.out]; exact HG5.out, HW5.out, by omega⟩⟩
         case measure => simp [intOf]; omega
    · have HGE := hQ0 (show groupsL l (i + 1) = groupsL l i from groupsL_old (by rw [← HN.out]; exact HR.out.1.old HBD.out))
      go_wp2_with fail
      go_roundw
      case rel => exact ⟨i + 1, d, B, e, by omega, by go_num, by rw [HGE.out], hQ0 ⟨HR.out.1.skip HBD.out, HR.out.2.1, by rw [HGE.out]; exact HR.out.2.2.1, HR.out.2.2.2.1, hD⟩⟩
      case measure => simp [intOf]; omega
  · obtain rfl : i = n := by omega
    go_wp2_with fail
    go_ret
    exact ⟨HR.out.2.2.2.1, B, e, rfl, HR.out.2.2.1.at⟩
theorem mat_block {w : World} {g : Nat} {e : TypeId} {l : List Mt} (h : w.heap[g]? = some (.cells (flatM l).toArray e (0, 0))) : MAt w (some ⟨g, 0, none⟩) l := fun k m hk => by
 have hg := (Array.getElem?_eq_some_iff.1 h).1
 have key : ∀ j, j < 10 → w.cell? ⟨g, 0 + k * 10 + j, none⟩ = m.cells[j]? := fun j hj => by
  rw [Nat.zero_add, cell_of_row w g _ _ e (0, 0) h, List.getElem?_toArray]
  exact flatM_get hk hj
 exact ⟨g, 0, rfl, hg, key 0 (by omega), key 1 (by omega), key 2 (by omega), key 3 (by omega), key 4 (by omega), key 5 (by omega), key 6 (by omega), key 7 (by omega), key 8 (by omega), key 9 (by omega)⟩
def flatC (l : List Ct) : List Value := l.flatMap Ct.cells
theorem flatC_get {l : List Ct} {k j : Nat} {m : Ct} (h : l[k]? = some m) (hj : j < 10) : (flatC l)[k * 10 + j]? = m.cells[j]? := by
 unfold flatC
 induction l generalizing k with
 | nil => simp at h
 | cons x l ih =>
  rw [List.flatMap_cons]
  have hl : x.cells.length = 10 := rfl
  cases k with
  | zero =>
   simp only [List.getElem?_cons_zero, Option.some.injEq] at h
   subst h
   rw [List.getElem?_append_left (by omega)]
   congr 1
   omega
  | succ k =>
   simp only [List.getElem?_cons_succ] at h
   rw [List.getElem?_append_right (by omega), hl, show (k + 1) * 10 + j - 10 = k * 10 + j by omega]
   exact ih h
theorem cat_block {w : World} {g : Nat} {e : TypeId} {l : List Ct} (h : w.heap[g]? = some (.cells (flatC l).toArray e (0, 0))) : CAt w (some ⟨g, 0, none⟩) l := fun k m hk => by
 have hg := (Array.getElem?_eq_some_iff.1 h).1
 have key : ∀ j, j < 10 → w.cell? ⟨g, 0 + k * 10 + j, none⟩ = m.cells[j]? := fun j hj => by
  rw [Nat.zero_add, cell_of_row w g _ _ e (0, 0) h, List.getElem?_toArray]
  exact flatC_get hk hj
 exact ⟨g, 0, rfl, hg, key 0 (by omega), key 1 (by omega), key 2 (by omega), key 3 (by omega), key 4 (by omega), key 5 (by omega), key 6 (by omega), key 7 (by omega), key 8 (by omega), key 9 (by omega)⟩
def aw1 : Mt := ⟨0, -1, 0, 1, 0, 0, 0, 0, 8, 0⟩
def aw2 : Mt := ⟨0, -1, -1, 0, 0, 0, 0, 0, 8, 0⟩
theorem aw_balls : setI (ballsL [aw1, aw2]) = [0] := setI_eq (by simp) fun x => by simp [ballsL, aw1, aw2]
theorem aw_res : resR [aw1, aw2] [(3, -4)] = ([(0, -1)], true, 0) := by
 have he : effL [aw1, aw2] [(3, -4)] = [aw1, aw2] := by decide +kernel
 have hn : newV [aw1, aw2] [(3, -4)] 0 = (0, -1) := by decide +kernel
 unfold resR ballsE
 rw [he, aw_balls, if_neg (by simp), if_pos ⟨by decide +kernel, by decide +kernel⟩]
 simp [putV, chgV, hn]
def awc (b k i : Int) : Ct := ⟨b, k, i, .slice none 0 0, .bool false, .slice none 0 0, .int .i64 0, .bool false, .slice none 0 0, .int .i64 0⟩
def awl : List Ct := [awc 0 5 2, awc 1 1 0, awc 2 3 0]
theorem Reach.cls {n : Nat} {sh : Nat → Nat → Bool} {cl : Nat → Nat} (h : ∀ a b, sh a b = true → cl a = cl b) {i j : Nat} (hr : Reach n sh i j) : cl i = cl j := by
 induction hr with
 | refl => rfl
 | step _ _ hs ih => exact ih.trans (h _ _ hs)
theorem awl_cls : ∀ a b, shL awl a b = true → (if a = 1 then 1 else 0 : Nat) = if b = 1 then 1 else 0 := by
 intro a b h
 have ha : a < 3 := by
  rcases Nat.lt_or_ge a 3 with h' | h'
  · exact h'
  · unfold shL at h; rw [List.getElem?_eq_none (by simpa [awl] using h')] at h; exact absurd h (by simp)
 have hb : b < 3 := by
  rcases Nat.lt_or_ge b 3 with h' | h'
  · exact h'
  · rw [shL_symm] at h; unfold shL at h; rw [List.getElem?_eq_none (by simpa [awl] using h')] at h; exact absurd h (by simp)
 rcases (by omega : a = 0 ∨ a = 1 ∨ a = 2) with rfl | rfl | rfl <;> rcases (by omega : b = 0 ∨ b = 1 ∨ b = 2) with rfl | rfl | rfl <;> first | rfl | (exfalso; revert h; decide)
theorem aw_groups : groupsL awl 3 = [[0, 2], [1]] := by
 have c := fun i j (h : Reach 3 (shL awl) i j) => Reach.cls (cl := fun a => if a = 1 then 1 else 0) awl_cls h
 have r00 : Reach 3 (shL awl) 0 0 := .refl
 have r11 : Reach 3 (shL awl) 1 1 := .refl
 have r02 : Reach 3 (shL awl) 0 2 := r00.step (by decide) (by decide)
 have n01 : ¬ Reach 3 (shL awl) 0 1 := fun h => by have := c _ _ h; simp at this
 have n10 : ¬ Reach 3 (shL awl) 1 0 := fun h => by have := c _ _ h; simp at this
 have n12 : ¬ Reach 3 (shL awl) 1 2 := fun h => by have := c _ _ h; simp at this
 have g0 : grpOf 3 (shL awl) 0 = [0, 2] := by unfold grpOf; simp [List.range_succ, r00, r02, n01]
 have g1 : grpOf 3 (shL awl) 1 = [1] := by unfold grpOf; simp [List.range_succ, r11, n10, n12]
 have o0 : ¬ Old 3 (shL awl) 0 0 := fun ⟨i, hi, _⟩ => by omega
 have o1 : ¬ Old 3 (shL awl) 1 1 := fun ⟨i, hi, h⟩ => by
  obtain rfl : i = 0 := by omega
  exact n01 h
 have o2 : Old 3 (shL awl) 2 2 := ⟨0, by omega, r02⟩
 have e1 : groupsTo 3 (shL awl) 1 = [[0, 2]] := by rw [groupsTo_new o0, g0]; rfl
 have e2 : groupsTo 3 (shL awl) 2 = [[0, 2], [1]] := by rw [groupsTo_new o1, g1, e1]; rfl
 have e3 : groupsTo 3 (shL awl) 3 = [[0, 2], [1]] := by rw [groupsTo_old o2, e2]
 show (groupsTo 3 (shL awl) 3).map natI = _
 rw [e3]
 rfl
set_option maxRecDepth 100000 in
set_option maxHeartbeats 20000000 in
theorem awake16_any (w : World) : Calls Tryz.prog 5 #[] w fun e w' => e = .returned (.bool true) ∧ Below w.heap.size w w' := by
 have kr := fun (A B : Option Addr) (c d : Nat) (w : World) h1 h2 => resolve_any [aw1, aw2] A c [(3, -4)] B d w h1 h2
 rw [aw_res] at kr
 have kg := fun (A : Option Addr) (c : Nat) (w : World) h1 => groups_any awl A c w h1 (by decide)
 rw [show awl.length = 3 from rfl, aw_groups] at kg
 have kb := fun (A : Option Addr) (c : Nat) (w : World) h1 => balls_any [aw1, aw2] A c w h1 (by decide)
 rw [aw_balls] at kb
 have KR := hQ0 kr
 have KG := hQ0 kg
 have KB := hQ0 kb
 clear kr kg kb
 go_enter Tryz.func5, Tryz.ntmps5; (try simp only [List.append_eq, List.cons_append, List.nil_append])
 go_wp2_with fail
 have hm : MAt ((w.alloc (.cells #[.int .i64 0, .int .i64 (-1), .int .i64 0, .int .i64 1, .int .i64 0, .int .i64 0, .int .i64 0, .int .i64 0, .int .i64 8, .int .i64 0, .int .i64 0, .int .i64 (-1), .int .i64 (-1), .int .i64 0, .int .i64 0, .int .i64 0, .int .i64 0, .int .i64 0, .int .i64 8, .int .i64 0] 40)).alloc (.cells #[.int .i64 3, .int .i64 (-4)] 38)) (some ⟨w.heap.size, 0, none⟩) [aw1, aw2] := mat_block (e := 40) ((heap_alloc_old _ _ (by simp)).trans (heap_alloc_new w _))
 have hv : VAt ((w.alloc (.cells #[.int .i64 0, .int .i64 (-1), .int .i64 0, .int .i64 1, .int .i64 0, .int .i64 0, .int .i64 0, .int .i64 0, .int .i64 8, .int .i64 0, .int .i64 0, .int .i64 (-1), .int .i64 (-1), .int .i64 0, .int .i64 0, .int .i64 0, .int .i64 0, .int .i64 0, .int .i64 8, .int .i64 0] 40)).alloc (.cells #[.int .i64 3, .int .i64 (-4)] 38)) (some ⟨w.heap.size + 1, 0, none⟩) [(3, -4)] := fun k x hx => by
  rcases k with _ | k
  · simp only [List.getElem?_cons_zero, Option.some.injEq] at hx
    subst hx
    exact ⟨w.heap.size + 1, 0, rfl, by simp, by go_simp, by go_simp⟩
  · simp at hx
 have HM := hQ0 hm
 have HV := hQ0 hv
 clear hm hv
 (go_at_call 6; refine (KR.out _ _ _ _ _ HM.out HV.out).mono ?_; rintro e w1 ⟨hb_w1, O, qo, rfl, ho⟩; have hz_w1 := hb_w1.size; (try simp at hz_w1); skip)
 obtain ⟨go, oo, rfl, hgo, o0, o1⟩ := ho 0 (0, -1) rfl
 simp only [Nat.zero_mul, Nat.add_zero] at o0 o1
 have HM1 := hQ0 (HM.out.below hb_w1 (Nat.le_refl _))
 have HB1 := hQ0 (show Below w.heap.size w w1 by ((with_reducible (repeat (first | exact bR _ _ | apply bS | apply bA | apply bD | refine bT ?_ (by assumption) ?_ | refine bO (by assumption) ?_ ?_))) <;> (first | omega | (simp <;> omega))))
 clear hb_w1 HM HV ho
 go_wp2_with fail
 (go_at_call 18; refine (KG.out _ _ _ (cat_block (l := awl) (heap_alloc_new w1 _))).mono ?_; rintro e w2 ⟨hb_w2, G, qg, rfl, hg⟩; have hz_w2 := hb_w2.size; (try simp at hz_w2); skip)
 obtain ⟨b0, ob, B, d, rfl, hb0, c0, hI⟩ := hg 0 [0, 2] rfl
 obtain ⟨b1, ob1, rfl, hb1, c1⟩ := hI 1 2 rfl
 rw [Nat.add_zero] at c0
 have o0' := (hb_w2.cell (p := ⟨go, oo, none⟩) (by simp; omega)).trans ((Lib.cell?_alloc_some _ o0))
 have o1' := (hb_w2.cell (p := ⟨go, oo + 1, none⟩) (by simp; omega)).trans ((Lib.cell?_alloc_some _ o1))
 have HB2 := hQ0 (HB1.out.trans ((show Below w1.heap.size w1 w2 by ((with_reducible (repeat (first | exact bR _ _ | apply bS | apply bA | apply bD | refine bT ?_ (by assumption) ?_ | refine bO (by assumption) ?_ ?_))) <;> (first | omega | (simp <;> omega)))).mono HB1.out.size))
 have HM2 := hQ0 (HM1.out.below (show Below w1.heap.size w1 w2 by ((with_reducible (repeat (first | exact bR _ _ | apply bS | apply bA | apply bD | refine bT ?_ (by assumption) ?_ | refine bO (by assumption) ?_ ?_))) <;> (first | omega | (simp <;> omega)))) (Nat.le_refl _))
 have hgo2 : go < w2.heap.size := by omega
 clear hb_w2 o0 o1 hg hI
 go_wp2_with fail
 (go_at_call 11; refine (KB.out _ _ _ HM2.out).mono ?_; rintro e w3 ⟨hb_w3, H, qh, rfl, hh⟩; have hz_w3 := hb_w3.size; (try simp at hz_w3); skip)
 have HB3 := hQ0 (HB2.out.trans (hb_w3.mono HB2.out.size))
 clear hb_w3 hh
 go_wp2_with fail
 go_ret
 exact ⟨rfl, HB3.out⟩
set_option maxRecDepth 100000 in
set_option maxHeartbeats 4000000 in
theorem numbers_yes (l : List Int) (A B : Option Addr) (c d : Nat) (w : World) (hA : IAt w A l) (hB : IAt w B l) (hl : l.length ≤ 100000) :
  Calls Tryz.prog 10 #[.slice A l.length c, .slice B l.length d] w fun e w' => e = .returned (.bool true) ∧ Below w.heap.size w w' := by
 have HA := hQ0 hA
 have HB := hQ0 hB
 clear hA hB
 have hne : ((l.length : Int) != (l.length : Int)) = false := by simp
 go_enter Tryz.func10, Tryz.ntmps10; (try simp only [List.append_eq, List.cons_append, List.nil_append])
 go_wp2_with fail
 go_loopw [5] (fun t5 wr => ∃ k : Nat, k ≤ l.length ∧ t5 = .int .i64 k ∧ Hid (Below w.heap.size w wr)) (fun t5 _ => l.length - (intOf t5).toNat)
 case atStart => exact ⟨0, by omega, rfl, hQ0 (Below.refl _ _)⟩
 case round =>
  obtain ⟨k, hk, rfl, HW⟩ := hrel
  have k1 : (0 : Int) ≤ (k : Int) := by omega
  by_cases hkl : k < l.length
  · have k2 : (k : Int) < (l.length : Int) := by omega
    obtain ⟨x, hx⟩ : ∃ x, l[k]? = some x := ⟨l[k], by simp⟩
    obtain ⟨g, o, rfl, hg, c0⟩ := (HA.out.below HW.out (Nat.le_refl _)) k x hx
    obtain ⟨g2, o2, rfl, hg2, c1⟩ := (HB.out.below HW.out (Nat.le_refl _)) k x hx
    clear hx
    go_wp2_with fail
    refine wp_region_warm (Own wr.heap.size wr) (by kernel_rfl) (by kernel_rfl) (Own.refl (Nat.le_refl _)).drew ?_
    repeat (first | (refine wpWarm_step_off rfl (fun K hK => ?_); (go_simp; refine hK _ ?_; clear hK K)) | (apply wpWarm_step rfl; (focus (intro W' hS; have hcS := hS.cells; go_simp; (first | done | exact rfl | exact ⟨rfl, hS⟩ | (go_simp; exact rfl)))); (intro K hK; go_simp; (try go_bits); refine hK _ ?_; clear hK K)) | (apply wpWarm_step_on rfl; (focus (intro W' hS; have hcS := hS.cells; go_simp; (first | done | exact rfl | exact ⟨rfl, hS⟩ | (go_simp; exact rfl)))); (intro K hK; go_simp; (try go_bits); refine hK _ ?_; clear hK K)))
    (refine wpWarm_nil ?_; intro w4 hO; have hz_w4 := hO.1; have hb_w4 := hO.2; clear hO; skip)
    have HB4 := hQ0 (HW.out.trans (hb_w4.mono HW.out.size))
    clear hb_w4 c0 c1
    go_wp2_with fail
    go_roundw
    case rel => exact ⟨k + 1, by omega, by go_num, HB4⟩
    case measure => simp [intOf]; omega
  · obtain rfl : k = l.length := by omega
    go_wp2_with fail
    go_ret
    exact ⟨rfl, HW.out⟩
set_option maxRecDepth 100000 in
set_option maxHeartbeats 4000000 in
theorem same_yes (l : List V2) (A B : Option Addr) (c d : Nat) (w : World) (hA : VAt w A l) (hB : VAt w B l) (hl : l.length ≤ 100000) :
  Calls Tryz.prog 9 #[.slice A l.length c, .slice B l.length d] w fun e w' => e = .returned (.bool true) ∧ Below w.heap.size w w' := by
 have HA := hQ0 hA
 have HB := hQ0 hB
 clear hA hB
 have hne : ((l.length : Int) != (l.length : Int)) = false := by simp
 go_enter Tryz.func9, Tryz.ntmps9; (try simp only [List.append_eq, List.cons_append, List.nil_append])
 go_wp2_with fail
 go_loopw [5] (fun t5 wr => ∃ k : Nat, k ≤ l.length ∧ t5 = .int .i64 k ∧ Hid (Below w.heap.size w wr)) (fun t5 _ => l.length - (intOf t5).toNat)
 case atStart => exact ⟨0, by omega, rfl, hQ0 (Below.refl _ _)⟩
 case round =>
  obtain ⟨k, hk, rfl, HW⟩ := hrel
  have k1 : (0 : Int) ≤ (k : Int) := by omega
  by_cases hkl : k < l.length
  · have k2 : (k : Int) < (l.length : Int) := by omega
    obtain ⟨⟨x, y⟩, hx⟩ : ∃ x, l[k]? = some x := ⟨l[k], by simp⟩
    obtain ⟨g, o, rfl, hg, c0, c1⟩ := (HA.out.below HW.out (Nat.le_refl _)) k _ hx
    obtain ⟨g2, o2, rfl, hg2, d0, d1⟩ := (HB.out.below HW.out (Nat.le_refl _)) k _ hx
    simp only at c0 c1 d0 d1
    clear hx
    go_wp2_with fail
    refine wp_region_warm (Own wr.heap.size wr) (by kernel_rfl) (by kernel_rfl) (Own.refl (Nat.le_refl _)).drew ?_
    repeat (first | (refine wpWarm_step_off rfl (fun K hK => ?_); (go_simp; refine hK _ ?_; clear hK K)) | (apply wpWarm_step rfl; (focus (intro W' hS; have hcS := hS.cells; go_simp; (first | done | exact rfl | exact ⟨rfl, hS⟩ | (go_simp; exact rfl)))); (intro K hK; go_simp; (try go_bits); refine hK _ ?_; clear hK K)) | (apply wpWarm_step_on rfl; (focus (intro W' hS; have hcS := hS.cells; go_simp; (first | done | exact rfl | exact ⟨rfl, hS⟩ | (go_simp; exact rfl)))); (intro K hK; go_simp; (try go_bits); refine hK _ ?_; clear hK K)))
    (refine wpWarm_nil ?_; intro w4 hO; have hz_w4 := hO.1; have hb_w4 := hO.2; clear hO; skip)
    have HB4 := hQ0 (HW.out.trans (hb_w4.mono HW.out.size))
    clear hb_w4 c0 c1 d0 d1
    go_wp2_with fail
    go_roundw
    case rel => exact ⟨k + 1, by omega, by go_num, HB4⟩
    case measure => simp [intOf]; omega
  · obtain rfl : k = l.length := by omega
    go_wp2_with fail
    go_ret
    exact ⟨rfl, HW.out⟩
theorem OwnM.kept {W W' : World} {base : Nat} {A : Option Addr} {c : Nat} {l : List Mt} {row : Option Nat} (h : OwnM W base A c l) (hg : W.grownBy W' row) (hne : Value.ownBlock (.slice A l.length c) = none ∨ Value.ownBlock (.slice A l.length c) ≠ row) : OwnM W' base A c l := World.ownsRow.kept h hg hne
def Dj (a b : Value) : Prop := a.ownBlock = none ∨ a.ownBlock ≠ b.ownBlock
theorem Dj.symm {a b : Value} (h : Dj a b) : Dj b a := by
 unfold Dj at *
 rcases h with h | h
 · cases hb : b.ownBlock with
   | none => exact .inl rfl
   | some k => right; rw [h]; simp
 · exact .inr fun e => h e.symm
theorem OwnW.nil (w : World) (base : Nat) : OwnW w base none 0 [] := World.ownsRow_nil _ _ _ _
theorem OwnW.fresh {w : World} {base : Nat} {A : Option Addr} {c : Nat} {l : List V2} (h : OwnW w base A c l) : ∀ k, Value.ownBlock (.slice A l.length c) = some k → base ≤ k := fun k hk => (World.ownsRow.lt h k hk).1
end Go.Proofs.YtgejdaincnclpaaGreat
