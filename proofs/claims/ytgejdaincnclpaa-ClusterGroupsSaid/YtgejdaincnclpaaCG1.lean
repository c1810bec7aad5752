/- Law ClusterGroups returns true for every list of contacts; each argument reads afterwards as it read before. No conditions. Merged texts: Open OpenV OpenL ClO ClP RsP ClA ClI ClJ LawCG (what no proof of the claim needs is left out). -/
import Derived.Test.YtgejdaincnclpaaCb6
import Derived.ProofKit
import Derived.OpenShut
import Derived.ChangeOld
import Derived.Below
import Derived.Carry
import Derived.Test.YtgejdaincnclpaaProg
import Derived.KernelRfl
import Derived.Test.YtgejdaincnclpaaRows
namespace Go.Proofs.Ytgejdaincnclpaa
open Go Go.ChangeShapes Go.WideShapes Go.ChangeAt Go.RowKit
/-- What the cells of a datum of type t are, below n levels. -/
def RowIs (P : Program) (w : World) : Nat → TypeId → List Value → Prop
  | 0, _, _ => False
  | n + 1, t, cs =>
    match P.underlying t with
    | some (.int k) => ∃ z, cs = [.int k z] ∧ (Lit.int k z).wf = true
    | some .bool => ∃ b, cs = [.bool b]
    | some .string => ∃ s : ByteArray, cs = [.string s] ∧ s.size ≤ maxLen
    | some (.struct fs) => cs.length = P.cellsOf t ∧ ∀ f ∈ fs.toList, RowIs P w n f.type ((cs.drop f.offset).take (P.cellsOf f.type))
    | some (.slice e) => cs = [.slice none 0 0] ∨ ∃ (a : Addr) (len cap : Nat), cs = [.slice (some a) len cap] ∧ len ≤ cap ∧ cap ≤ maxLen ∧
        ∀ i, i < len → ∃ row, row.length = P.cellsOf e ∧ (∀ j v, row[j]? = some v → w.cell? (a.add (i * P.cellsOf e + j)) = some v) ∧ RowIs P w n e row
    | _ => True
section
variable {H : Type} {enc : TypeId × Value → H} {P : Program} {w : World}
theorem cells_at {base : Nat} {a : Addr} {n : Nat} {row : List Value} (h : w.cells? base a n = some row) : row.length = n ∧ ∀ j v, row[j]? = some v → w.cell? (a.add j) = some v := by
  unfold World.cells? at h
  split at h
  · have hl := mapM_some_length h
    simp at hl
    refine ⟨hl, fun j v hj => ?_⟩
    have hlt : j < n := by rw [← hl]; exact (List.getElem?_eq_some_iff.1 hj).1
    have := mapM_some_get h j j (by simp [hlt])
    rw [this, hj]
  · cases h
theorem add_add' (a : Addr) (i j : Nat) : (a.add i).add j = a.add (i + j) := by
  unfold Addr.add
  by_cases hi : i = 0 <;> by_cases hj : j = 0 <;> simp [hi, hj, Nat.add_assoc]
theorem rowIs_of_trod {base : Nat} {spare : Nat → Bool} {held : Bool} : ∀ (fuel : Nat) (t : TypeId) (cs : List Value) (x : DataW H × List MemPlace), DataW.trod enc P w base spare held fuel t cs = some x → RowIs P w fuel t cs := by
  intro fuel
  induction fuel with
  | zero => intro t cs x h; simp [DataW.trod] at h
  | succ n ih =>
    intro t cs x h
    cases hu : P.underlying t with
    | none => simp only [RowIs, hu]
    | some d =>
      cases d with
      | bool => obtain ⟨b, hb, _⟩ := DataW.trod_bool hu h; simp only [RowIs, hu]; exact ⟨b, hb⟩
      | int k => obtain ⟨z, hz, _, hw⟩ := DataW.trod_int hu h; simp only [RowIs, hu]; exact ⟨z, hz, hw⟩
      | string => obtain ⟨s, hs, _, hw⟩ := DataW.trod_string hu h; simp only [RowIs, hu]; exact ⟨s, hs, hw⟩
      | struct fs =>
        obtain ⟨xs, m, hm, _, hl, hxl, hf⟩ := DataW.trod_struct hu h
        obtain rfl : m = n := by omega
        simp only [RowIs, hu]
        refine ⟨hl, fun f hfm => ?_⟩
        obtain ⟨i, hi⟩ := List.getElem?_of_mem hfm
        have h1 := hf i f (by simpa using hi)
        have hlt : i < xs.length := by rw [hxl]; have := (List.getElem?_eq_some_iff.1 hi).1; simpa using this
        rw [List.getElem?_eq_getElem hlt] at h1
        exact ih _ _ _ h1
      | slice e =>
        simp only [RowIs, hu]
        rcases DataW.trod_slice hu h with ⟨h0, _⟩ | ⟨a, len, cap, elems, rest, m, hm, hcs, _, _, hlc, hcap, hel, hat, _⟩
        · exact .inl h0
        · obtain rfl : m = n := by omega
          refine .inr ⟨a, len, cap, hcs, hlc, hcap, fun i hi => ?_⟩
          have h1 := hat i hi
          have hlt : i < elems.length := by omega
          rw [List.getElem?_eq_getElem hlt] at h1
          obtain ⟨row, hr, ht⟩ := Option.bind_eq_some_iff.1 h1
          obtain ⟨hl, hc⟩ := cells_at hr
          exact ⟨row, hl, fun j v hj => by rw [← add_add']; exact hc j v hj, ih _ _ _ ht⟩
      | _ => simp only [RowIs, hu]
theorem rowIs_int {n : Nat} {t : TypeId} {k : IntKind} {cs : List Value} (hu : P.underlying t = some (.int k)) (h : RowIs P w n t cs) : ∃ z, cs = [.int k z] ∧ (Lit.int k z).wf = true := by
  cases n with
  | zero => exact h.elim
  | succ n => simpa only [RowIs, hu] using h
theorem rowIs_struct {n : Nat} {t : TypeId} {fs : Array Field} {cs : List Value} (hu : P.underlying t = some (.struct fs)) (h : RowIs P w n t cs) :
    cs.length = P.cellsOf t ∧ ∃ m, ∀ f ∈ fs.toList, RowIs P w m f.type ((cs.drop f.offset).take (P.cellsOf f.type)) := by
  cases n with
  | zero => exact h.elim
  | succ n => simp only [RowIs, hu] at h; exact ⟨h.1, n, h.2⟩
theorem rowIs_slice {n : Nat} {t e : TypeId} {cs : List Value} (hu : P.underlying t = some (.slice e)) (h : RowIs P w n t cs) :
    cs = [.slice none 0 0] ∨ ∃ (a : Addr) (len cap m : Nat), cs = [.slice (some a) len cap] ∧ len ≤ cap ∧ cap ≤ maxLen ∧
        ∀ i, i < len → ∃ row, row.length = P.cellsOf e ∧ (∀ j v, row[j]? = some v → w.cell? (a.add (i * P.cellsOf e + j)) = some v) ∧ RowIs P w m e row := by
  cases n with
  | zero => exact h.elim
  | succ n =>
    simp only [RowIs, hu] at h
    rcases h with h | ⟨a, len, cap, h1, h2, h3, h4⟩
    · exact .inl h
    · exact .inr ⟨a, len, cap, n, h1, h2, h3, h4⟩
theorem all4 {α : Type} {p : α → Prop} {a b c d : α} (h : ∀ x ∈ (#[a, b, c, d] : Array α).toList, p x) : p a ∧ p b ∧ p c ∧ p d := ⟨h a (by simp), h b (by simp), h c (by simp), h d (by simp)⟩
end
end Go.Proofs.Ytgejdaincnclpaa
namespace Go.Proofs.Ytgejdaincnclpaa
open Go
theorem cells_int : Try.prog.cellsOf 3 = 1 := by kernel_rfl
end Go.Proofs.Ytgejdaincnclpaa
namespace Go.Proofs.Ytgejdaincnclpaa
open Go Go.RowKit
theorem slice_open {α : Type} {w : World} {n : Nat} {t e : TypeId} {A : Option Addr} {len cap size : Nat} (hu : Try.prog.underlying t = some (.slice e)) (h : RowIs Try.prog w n t [.slice A len cap]) (hc : Try.prog.cellsOf e = size)
    (cells : α → List Value) (ok : α → Prop) (hpos : ∀ x, ∃ v r, cells x = v :: r) (hrow : ∀ m row, RowIs Try.prog w m e row → ∃ x, ok x ∧ row = cells x) :
    len ≤ maxLen ∧ ∃ l : List α, l.length = len ∧ (∀ x ∈ l, ok x) ∧ ∀ k x, l[k]? = some x → ∃ g o, A = some ⟨g, o, none⟩ ∧ g < w.heap.size ∧ ∀ j v, (cells x)[j]? = some v → w.cell? ⟨g, o + (k * size + j), none⟩ = some v := by
  have none0 : len = 0 → len ≤ maxLen ∧ ∃ l : List α, l.length = len ∧ (∀ x ∈ l, ok x) ∧ ∀ k x, l[k]? = some x → ∃ g o, A = some ⟨g, o, none⟩ ∧ g < w.heap.size ∧ ∀ j v, (cells x)[j]? = some v → w.cell? ⟨g, o + (k * size + j), none⟩ = some v := fun h0 => by
    subst h0
    exact ⟨by unfold maxLen; omega, [], rfl, by simp, fun k x h => by simp at h⟩
  rcases rowIs_slice hu h with h0 | ⟨a, len', cap', m, hcs, hlc, hcap, hrows⟩
  · simp only [List.cons.injEq, Value.slice.injEq, and_true] at h0
    exact none0 h0.2.1
  · simp only [List.cons.injEq, Value.slice.injEq, and_true] at hcs
    obtain ⟨rfl, rfl, rfl⟩ := hcs
    rcases Nat.eq_zero_or_pos len with h0 | h0
    · exact none0 h0
    · refine ⟨by omega, ?_⟩
      have hr : ∀ i, i < len → ∃ x : α, ok x ∧ ∀ j v, (cells x)[j]? = some v → w.cell? (a.add (i * size + j)) = some v := by
        intro i hi
        obtain ⟨row, hl, hc', hrw⟩ := hrows i hi
        obtain ⟨x, hx, rfl⟩ := hrow _ _ hrw
        rw [hc] at hc'
        exact ⟨x, hx, hc'⟩
      obtain ⟨x0, _, hx0⟩ := hr 0 h0
      obtain ⟨v0, r0, e0⟩ := hpos x0
      have hc0 := hx0 0 v0 (by rw [e0]; rfl)
      obtain ⟨g, o, spot⟩ := a
      have hsp : spot = none := by simpa [Addr.add] using World.cell?_spot hc0
      subst hsp
      have hg : g < w.heap.size := by
        have := World.block_lt_of_cell? w _ hc0
        simpa [Addr.add] using this
      clear hc0 hx0 e0
      have build : ∀ m, m ≤ len → ∃ l : List α, l.length = m ∧ (∀ k x, l[k]? = some x → ok x ∧ ∀ j v, (cells x)[j]? = some v → w.cell? ((⟨g, o, none⟩ : Addr).add (k * size + j)) = some v) := by
        intro m
        induction m with
        | zero => intro _; exact ⟨[], rfl, fun k x h => by simp at h⟩
        | succ m ih =>
          intro hm
          obtain ⟨l, hl, hp⟩ := ih (by omega)
          obtain ⟨x, hx⟩ := hr m (by omega)
          refine ⟨l ++ [x], by simp [hl], fun k y hk => ?_⟩
          rcases Nat.lt_or_ge k l.length with h | h
          · rw [List.getElem?_append_left h] at hk; exact hp k y hk
          · rw [List.getElem?_append_right h] at hk
            have hk0 : k = m := by
              have := (List.getElem?_eq_some_iff.1 hk).1
              simp at this; omega
            subst hk0
            rw [hl, Nat.sub_self] at hk
            simp only [List.getElem?_cons_zero, Option.some.injEq] at hk
            subst hk
            exact hx
      obtain ⟨l, hl, hp⟩ := build len (Nat.le_refl _)
      have hadd : ∀ j, (⟨g, o, none⟩ : Addr).add j = ⟨g, o + j, none⟩ := by intro j; unfold Addr.add; split <;> simp_all
      refine ⟨l, hl, fun x hx => ?_, fun k x hx => ⟨g, o, rfl, hg, fun j v hj => ?_⟩⟩
      · obtain ⟨k, hk⟩ := List.getElem?_of_mem hx
        exact (hp k x hk).1
      · have := (hp k x hx).2 j v hj; rwa [hadd] at this
end Go.Proofs.Ytgejdaincnclpaa
namespace Go.Proofs.Ytgejdaincnclpaa
open Go Go.RowKit
theorem len10 {α : Type} {l : List α} (h : l.length = 10) : ∃ a b c d e f g i j k, l = [a, b, c, d, e, f, g, i, j, k] := by
  match l, h with
  | [a, b, c, d, e, f, g, i, j, k], _ => exact ⟨a, b, c, d, e, f, g, i, j, k, rfl⟩
theorem cells_contact : Try.prog.cellsOf 55 = 10 := by kernel_rfl
theorem row_contact {w : World} {n : Nat} {cs : List Value} (h : RowIs Try.prog w n 55 cs) : ∃ x : Ct, True ∧ cs = x.cells := by
  obtain ⟨hl, m, hf⟩ := rowIs_struct Try.underlying55 h
  rw [cells_contact] at hl
  obtain ⟨c0, c1, c2, c3, c4, c5, c6, c7, c8, c9, rfl⟩ := len10 hl
  obtain ⟨h0, h1, h2, h3⟩ := all4 hf
  simp only [cells_int, List.drop_zero, List.drop_succ_cons, List.take_succ_cons, List.take_zero] at h0 h1 h2
  obtain ⟨z0, e0, w0⟩ := rowIs_int Try.underlying3 h0
  obtain ⟨z1, e1, w1⟩ := rowIs_int Try.underlying3 h1
  obtain ⟨z2, e2, w2⟩ := rowIs_int Try.underlying3 h2
  simp only [List.cons.injEq, and_true] at e0 e1 e2
  exact ⟨⟨z0, z1, z2, c3, c4, c5, c6, c7, c8, c9⟩, trivial, by rw [e0, e1, e2]; rfl⟩
theorem contacts_open {w : World} {n : Nat} {A : Option Addr} {len cap : Nat} (h : RowIs Try.prog w n 22 [.slice A len cap]) : len ≤ maxLen ∧ ∃ l : List Ct, l.length = len ∧ CAt w A l := by
  obtain ⟨h1, l, hl, hok, hp⟩ := slice_open Try.underlying22 h cells_contact Ct.cells (fun _ => True) (fun x => ⟨_, _, rfl⟩) (fun m row hr => row_contact hr)
  refine ⟨h1, l, hl, fun k x hx => ?_⟩
  obtain ⟨g, o, hA, hg, hc⟩ := hp k x hx
  have c0 := hc 0 _ rfl
  have c1 := hc 1 _ rfl
  have c2 := hc 2 _ rfl
  have c3 := hc 3 _ rfl
  have c4 := hc 4 _ rfl
  have c5 := hc 5 _ rfl
  have c6 := hc 6 _ rfl
  have c7 := hc 7 _ rfl
  have c8 := hc 8 _ rfl
  have c9 := hc 9 _ rfl
  simp only [← Nat.add_assoc, Nat.add_zero] at c0 c1 c2 c3 c4 c5 c6 c7 c8 c9
  exact ⟨g, o, hA, hg, c0, c1, c2, c3, c4, c5, c6, c7, c8, c9⟩
end Go.Proofs.Ytgejdaincnclpaa
namespace Go.Proofs.Ytgejdaincnclpaa
set_option linter.unusedVariables false
open Classical in
theorem grpOf_len (n : Nat) (sh : Nat → Nat → Bool) (i : Nat) : (grpOf n sh i).length ≤ n := by
  unfold grpOf
  have := List.length_filter_le (fun j => decide (Reach n sh i j)) (List.range n)
  simpa using this
theorem groupsTo_mem {n : Nat} {sh : Nat → Nat → Bool} : ∀ {m : Nat} {g : List Nat}, g ∈ groupsTo n sh m → g.length ≤ n
  | 0, g, h => by simp [groupsTo] at h
  | m + 1, g, h => by
    by_cases hO : Old n sh m m
    · rw [groupsTo_old hO] at h; exact groupsTo_mem h
    · rw [groupsTo_new hO, List.mem_append, List.mem_singleton] at h
      rcases h with h | rfl
      · exact groupsTo_mem h
      · exact grpOf_len n sh m
def falses (b : List Bool) : Nat := b.count false
theorem falses_set {b : List Bool} {k : Nat} (h : b[k]? = some false) : falses (b.set k true) + 1 = falses b := by
  unfold falses
  induction b generalizing k with
  | nil => simp at h
  | cons x b ih =>
    cases k with
    | zero =>
      simp only [List.getElem?_cons_zero, Option.some.injEq] at h
      subst h
      simp
    | succ k =>
      simp only [List.getElem?_cons_succ] at h
      have := ih h
      simp only [List.set_cons_succ, List.count_cons]
      omega
theorem marked_suc (b : List Bool) (m : Nat) : marked b (m + 1) = marked b m ++ (if b[m]? = some true then [m] else []) := by
  unfold marked
  rw [List.range_succ, List.filter_append]
  congr 1
  by_cases h : b[m]? = some true <;> simp [h]
open Classical in
theorem marked_grp {n : Nat} {sh : Nat → Nat → Bool} {i : Nat} {b : List Bool} {y : Nat} (h : RI n sh i b) (hc : Clos n sh b n y) : marked b n = grpOf n sh i := by
  unfold marked grpOf
  refine List.filter_congr fun j hj => ?_
  have := h.all hc j
  rw [List.mem_range] at hj
  by_cases hb : b[j]? = some true
  · simp only [hb, beq_self_eq_true]
    exact (decide_eq_true (this.1 hb).2).symm
  · have hn : ¬ Reach n sh i j := fun hr => hb (this.2 ⟨hj, hr⟩)
    simp [hb, hn]
/-- The marks of the group go to the marks of all. -/
def orTo (d b : List Bool) (m : Nat) : List Bool := d.zipIdx.map (fun x => x.1 || (decide (x.2 < m) && (b[x.2]? == some true)))
theorem orTo_zero (d b : List Bool) : orTo d b 0 = d := by
  unfold orTo
  simp
theorem orTo_len (d b : List Bool) (m : Nat) : (orTo d b m).length = d.length := by simp [orTo]
theorem orTo_get (d b : List Bool) (m j : Nat) : (orTo d b m)[j]? = d[j]?.map (fun x => x || (decide (j < m) && (b[j]? == some true))) := by
  unfold orTo
  rw [List.getElem?_map, List.getElem?_zipIdx]
  cases d[j]? <;> simp
theorem orTo_suc (d b : List Bool) (m : Nat) : orTo d b (m + 1) = if b[m]? = some true then (orTo d b m).set m true else orTo d b m := by
  apply List.ext_getElem?
  intro j
  by_cases hb : b[m]? = some true
  · rw [if_pos hb, List.getElem?_set, orTo_get, orTo_get, orTo_len]
    by_cases hj : m = j
    · subst hj
      rw [if_pos rfl]
      by_cases hl : m < d.length
      · rw [if_pos hl]
        simp [hb, hl]
      · rw [if_neg hl]
        simp [List.getElem?_eq_none (Nat.le_of_not_lt hl)]
    · rw [if_neg hj]
      have : (decide (j < m + 1)) = (decide (j < m)) := by
        by_cases h2 : j < m
        · simp [h2]; omega
        · simp [h2]; omega
      rw [this]
  · rw [if_neg hb, orTo_get, orTo_get]
    by_cases hj : m = j
    · subst hj
      have hb' : (b[m]? == some true) = false := by rw [beq_eq_false_iff_ne]; exact hb
      simp [hb']
    · have : (decide (j < m + 1)) = (decide (j < m)) := by
        by_cases h2 : j < m
        · simp [h2]; omega
        · simp [h2]; omega
      rw [this]
theorem orTo_done {n : Nat} {sh : Nat → Nat → Bool} {i : Nat} {d b : List Bool} {y : Nat} (hd : DoneI n sh i d) (h : RI n sh i b) (hc : Clos n sh b n y) : DoneI n sh (i + 1) (orTo d b n) :=
  ⟨by rw [orTo_len]; exact hd.1, fun j => by
    rw [old_suc, orTo_get]
    have hb := h.all hc j
    have hd' := hd.2 j
    constructor
    · intro hx
      rcases hdj : d[j]? with _ | x
      · rw [hdj] at hx; simp at hx
      · rw [hdj] at hx
        have hj : j < n := by have := (List.getElem?_eq_some_iff.1 hdj).1; rw [hd.1] at this; exact this
        simp only [Option.map_some, Option.some.injEq, Bool.or_eq_true, Bool.and_eq_true, decide_eq_true_eq, beq_iff_eq] at hx
        rcases hx with rfl | ⟨_, hx⟩
        · exact ⟨hj, .inl (hd'.1 hdj).2⟩
        · exact ⟨hj, .inr (hb.1 hx).2⟩
    · rintro ⟨hj, hx⟩
      obtain ⟨x, hdj⟩ : ∃ x, d[j]? = some x := ⟨d[j]'(by rw [hd.1]; exact hj), by simp [hd.1, hj]⟩
      rw [hdj]
      simp only [Option.map_some, Option.some.injEq, Bool.or_eq_true, Bool.and_eq_true, decide_eq_true_eq, beq_iff_eq]
      rcases hx with hx | hx
      · left
        have := hd'.2 ⟨hj, hx⟩
        rw [hdj] at this
        exact Option.some.inj this
      · exact .inr ⟨hj, hb.2 ⟨hj, hx⟩⟩⟩
end Go.Proofs.Ytgejdaincnclpaa
namespace Go.Proofs.Ytgejdaincnclpaa
open Go Go.RowKit
set_option linter.unusedVariables false
theorem pr3 {a b : Int × Int × Int} (h1 : a.1 = b.1) (h2 : a.2.1 = b.2.1) (h3 : a.2.2 = b.2.2) : a = b := by
  obtain ⟨x, y, z⟩ := a; obtain ⟨x', y', z'⟩ := b; simp_all
end Go.Proofs.Ytgejdaincnclpaa
namespace Go.Proofs.Ytgejdaincnclpaa
open Go Go.RowKit
set_option linter.unusedVariables false
set_option maxHeartbeats 1000000 in
theorem sof_any (x : Ct) (n : Int) (w : World) :
    Calls Try.prog 34 #[x.v, .int .i64 n] w fun e w' => e = .returned (.bool (hasB x n)) ∧ Below w.heap.size w w' := by
  obtain ⟨b, k, i, r0, r1, r2, r3, r4, r5, r6⟩ := x
  unfold hasB Ct.v
  simp only
  go_enter Try.func34, Try.ntmps34; (try simp only [List.append_eq, List.cons_append, List.nil_append])
  cases h1 : (b == n) <;> cases h2 : (k == 5) <;> cases h3 : (i == n)
  all_goals
    go_wp2
    go_ret
    exact ⟨rfl, by ((with_reducible (repeat (first | exact bR _ _ | refine bS ?_ ?_ _ | refine bA ?_ ?_ _ | refine bD ?_ | refine bT ?_ (by assumption) ?_ | refine bO (by assumption) ?_ ?_))) <;> (first | omega | (simp; done) | (simp <;> omega)))⟩
set_option maxHeartbeats 2000000 in
theorem shares_any (x y : Ct) (w : World) :
    Calls Try.prog 19 #[x.v, y.v] w fun e w' => e = .returned (.bool (shareB x y)) ∧ Below w.heap.size w w' := by
  have k1 := fun w => sof_any x y.b w
  have k2 := fun w => sof_any x y.i w
  unfold shareB
  generalize hasB x y.b = c1 at *
  generalize hasB x y.i = c2 at *
  obtain ⟨b, k, i, r0, r1, r2, r3, r4, r5, r6⟩ := x
  obtain ⟨b', k', i', q0, q1, q2, q3, q4, q5, q6⟩ := y
  simp only [Ct.v] at *
  have K1 := Lib.hid k1
  have K2 := Lib.hid k2
  clear k1 k2
  cases c1
  · cases h5 : (k' == 5)
    · go_enter Try.func19, Try.ntmps19; (try simp only [List.append_eq, List.cons_append, List.nil_append])
      go_wp2_with fail
      -- own blocks: w.heap.size:10, w.heap.size + 1:10
      (go_at_call 34; refine (K1.out _).mono ?_; rintro e w1 ⟨rfl, hb_w1⟩; have hz_w1 := hb_w1.size; (try simp at hz_w1); (with_reducible apply cel10 (b := w.heap.size) hb_w1); (focus ((try simp) <;> omega)); (focus omega); (focus (go_simp; try exact rfl)); (focus (go_simp; try exact rfl)); (focus (go_simp; try exact rfl)); (focus (go_simp; try exact rfl)); (focus (go_simp; try exact rfl)); (focus (go_simp; try exact rfl)); (focus (go_simp; try exact rfl)); (focus (go_simp; try exact rfl)); (focus (go_simp; try exact rfl)); (focus (go_simp; try exact rfl)); (focus (intro o; go_simp)); intro cc cc cc cc cc cc cc cc cc cc fz hl; (with_reducible apply cel10 (b := w.heap.size + 1) hb_w1); (focus ((try simp) <;> omega)); (focus omega); (focus (go_simp; try exact rfl)); (focus (go_simp; try exact rfl)); (focus (go_simp; try exact rfl)); (focus (go_simp; try exact rfl)); (focus (go_simp; try exact rfl)); (focus (go_simp; try exact rfl)); (focus (go_simp; try exact rfl)); (focus (go_simp; try exact rfl)); (focus (go_simp; try exact rfl)); (focus (go_simp; try exact rfl)); (focus (intro o; go_simp)); intro cc cc cc cc cc cc cc cc cc cc fz hl)
      go_wp2_with fail
      go_ret
      exact ⟨rfl, by ((with_reducible (repeat (first | exact bR _ _ | refine bS ?_ ?_ _ | refine bA ?_ ?_ _ | refine bD ?_ | refine bT ?_ (by assumption) ?_ | refine bO (by assumption) ?_ ?_))) <;> (first | omega | (simp; done) | (simp <;> omega)))⟩
    · go_enter Try.func19, Try.ntmps19; (try simp only [List.append_eq, List.cons_append, List.nil_append])
      go_wp2_with fail
      -- own blocks: w.heap.size:10, w.heap.size + 1:10
      (go_at_call 34; refine (K1.out _).mono ?_; rintro e w1 ⟨rfl, hb_w1⟩; have hz_w1 := hb_w1.size; (try simp at hz_w1); (with_reducible apply cel10 (b := w.heap.size) hb_w1); (focus ((try simp) <;> omega)); (focus omega); (focus (go_simp; try exact rfl)); (focus (go_simp; try exact rfl)); (focus (go_simp; try exact rfl)); (focus (go_simp; try exact rfl)); (focus (go_simp; try exact rfl)); (focus (go_simp; try exact rfl)); (focus (go_simp; try exact rfl)); (focus (go_simp; try exact rfl)); (focus (go_simp; try exact rfl)); (focus (go_simp; try exact rfl)); (focus (intro o; go_simp)); intro cc cc cc cc cc cc cc cc cc cc fz hl; (with_reducible apply cel10 (b := w.heap.size + 1) hb_w1); (focus ((try simp) <;> omega)); (focus omega); (focus (go_simp; try exact rfl)); (focus (go_simp; try exact rfl)); (focus (go_simp; try exact rfl)); (focus (go_simp; try exact rfl)); (focus (go_simp; try exact rfl)); (focus (go_simp; try exact rfl)); (focus (go_simp; try exact rfl)); (focus (go_simp; try exact rfl)); (focus (go_simp; try exact rfl)); (focus (go_simp; try exact rfl)); (focus (intro o; go_simp)); intro cc cc cc cc cc cc cc cc cc cc fz hl)
      go_wp2_with fail
      (go_at_call 34; refine (K2.out _).mono ?_; rintro e w2 ⟨rfl, hb_w2⟩; have hz_w2 := hb_w2.size; (try simp at hz_w2); (with_reducible apply cel10 (b := w.heap.size) hb_w2); (focus ((try simp) <;> omega)); (focus omega); (focus (go_simp; try exact rfl)); (focus (go_simp; try exact rfl)); (focus (go_simp; try exact rfl)); (focus (go_simp; try exact rfl)); (focus (go_simp; try exact rfl)); (focus (go_simp; try exact rfl)); (focus (go_simp; try exact rfl)); (focus (go_simp; try exact rfl)); (focus (go_simp; try exact rfl)); (focus (go_simp; try exact rfl)); (focus (intro o; go_simp)); intro cc cc cc cc cc cc cc cc cc cc fz hl; (with_reducible apply cel10 (b := w.heap.size + 1) hb_w2); (focus ((try simp) <;> omega)); (focus omega); (focus (go_simp; try exact rfl)); (focus (go_simp; try exact rfl)); (focus (go_simp; try exact rfl)); (focus (go_simp; try exact rfl)); (focus (go_simp; try exact rfl)); (focus (go_simp; try exact rfl)); (focus (go_simp; try exact rfl)); (focus (go_simp; try exact rfl)); (focus (go_simp; try exact rfl)); (focus (go_simp; try exact rfl)); (focus (intro o; go_simp)); intro cc cc cc cc cc cc cc cc cc cc fz hl)
      cases c2
      all_goals
        go_wp2_with fail
        go_ret
        exact ⟨rfl, by ((with_reducible (repeat (first | exact bR _ _ | refine bS ?_ ?_ _ | refine bA ?_ ?_ _ | refine bD ?_ | refine bT ?_ (by assumption) ?_ | refine bO (by assumption) ?_ ?_))) <;> (first | omega | (simp; done) | (simp <;> omega)))⟩
  · go_enter Try.func19, Try.ntmps19; (try simp only [List.append_eq, List.cons_append, List.nil_append])
    go_wp2_with fail
    -- own blocks: w.heap.size:10, w.heap.size + 1:10
    (go_at_call 34; refine (K1.out _).mono ?_; rintro e w1 ⟨rfl, hb_w1⟩; have hz_w1 := hb_w1.size; (try simp at hz_w1); (with_reducible apply cel10 (b := w.heap.size) hb_w1); (focus ((try simp) <;> omega)); (focus omega); (focus (go_simp; try exact rfl)); (focus (go_simp; try exact rfl)); (focus (go_simp; try exact rfl)); (focus (go_simp; try exact rfl)); (focus (go_simp; try exact rfl)); (focus (go_simp; try exact rfl)); (focus (go_simp; try exact rfl)); (focus (go_simp; try exact rfl)); (focus (go_simp; try exact rfl)); (focus (go_simp; try exact rfl)); (focus (intro o; go_simp)); intro cc cc cc cc cc cc cc cc cc cc fz hl; (with_reducible apply cel10 (b := w.heap.size + 1) hb_w1); (focus ((try simp) <;> omega)); (focus omega); (focus (go_simp; try exact rfl)); (focus (go_simp; try exact rfl)); (focus (go_simp; try exact rfl)); (focus (go_simp; try exact rfl)); (focus (go_simp; try exact rfl)); (focus (go_simp; try exact rfl)); (focus (go_simp; try exact rfl)); (focus (go_simp; try exact rfl)); (focus (go_simp; try exact rfl)); (focus (go_simp; try exact rfl)); (focus (intro o; go_simp)); intro cc cc cc cc cc cc cc cc cc cc fz hl)
    go_wp2_with fail
    go_ret
    exact ⟨rfl, by ((with_reducible (repeat (first | exact bR _ _ | refine bS ?_ ?_ _ | refine bA ?_ ?_ _ | refine bD ?_ | refine bT ?_ (by assumption) ?_ | refine bO (by assumption) ?_ ?_))) <;> (first | omega | (simp; done) | (simp <;> omega)))⟩
end Go.Proofs.Ytgejdaincnclpaa
namespace Go.Proofs.Ytgejdaincnclpaa
open Go Go.RowKit
set_option linter.unusedVariables false
/-- In a pass that began at b0: something was marked, or nothing was and all pairs so far are closed. -/
def PassI (n : Nat) (sh : Nat → Nat → Bool) (b0 : List Bool) (more : Bool) (b : List Bool) (x y : Nat) : Prop := (more = true ∧ falses b < falses b0) ∨ (more = false ∧ b = b0 ∧ Clos n sh b x y)
theorem PassI.zero (n : Nat) (sh : Nat → Nat → Bool) (b : List Bool) : PassI n sh b false b 0 0 := .inr ⟨rfl, rfl, Clos.zero _ _ _⟩
theorem PassI.pass {n : Nat} {sh : Nat → Nat → Bool} {b0 b : List Bool} {more : Bool} {x y : Nat} (h : PassI n sh b0 more b x y) (hno : b[x]? = some true → b[y]? = some true ∨ sh x y = false) : PassI n sh b0 more b x (y + 1) := by
  rcases h with h | ⟨h1, h2, h3⟩
  · exact .inl h
  · exact .inr ⟨h1, h2, h3.pass hno⟩
theorem PassI.add {n : Nat} {sh : Nat → Nat → Bool} {b0 b : List Bool} {more : Bool} {x y x' y' : Nat} (h : PassI n sh b0 more b x y) {k : Nat} (hk : b[k]? = some false) : PassI n sh b0 true (b.set k true) x' y' := by
  have := falses_set hk
  rcases h with ⟨_, h⟩ | ⟨_, rfl, _⟩
  · exact .inl ⟨rfl, by omega⟩
  · exact .inl ⟨rfl, by omega⟩
theorem PassI.row {n : Nat} {sh : Nat → Nat → Bool} {b0 b : List Bool} {more : Bool} {x : Nat} (h : PassI n sh b0 more b x n) : PassI n sh b0 more b (x + 1) 0 := by
  rcases h with h | ⟨h1, h2, h3⟩
  · exact .inl h
  · exact .inr ⟨h1, h2, h3.row⟩
theorem PassI.less {n : Nat} {sh : Nat → Nat → Bool} {b0 b : List Bool} {more : Bool} {x y : Nat} (h : PassI n sh b0 more b x y) : (if more = true then falses b + 1 else 0) < falses b0 + 1 := by
  rcases h with ⟨rfl, h⟩ | ⟨rfl, _⟩
  · rw [if_pos rfl]; omega
  · rw [if_neg (by decide)]; omega
theorem PassI.clos {n : Nat} {sh : Nat → Nat → Bool} {b0 b : List Bool} {more : Bool} {x y : Nat} (h : PassI n sh b0 more b x y) (hm : more = false) : Clos n sh b x y := by
  rcases h with ⟨h, _⟩ | ⟨_, _, h⟩
  · rw [hm] at h; exact absurd h (by decide)
  · exact h
theorem marked_len (b : List Bool) (m : Nat) : (marked b m).length ≤ m := by
  unfold marked
  have := List.length_filter_le (fun j => b[j]? == some true) (List.range m)
  simpa using this
set_option maxRecDepth 100000 in
set_option maxHeartbeats 40000000 in
theorem rgroups_any (l : List Ct) (A : Option Addr) (c : Nat) (w : World) (hV : CAt w A l) (hl : l.length ≤ 1000) :
    Calls Try.prog 8 #[.slice A l.length c] w (GOut (groupsL l l.length) w) := by
  have HV := Lib.hid hV
  obtain ⟨n, hn⟩ : ∃ n, n = l.length := ⟨_, rfl⟩
  have hmk := fun w => run_make_row' (P := Try.prog) 56 4 (.bool false) 1 Try.underlying56 infB rfl .i64 .i64 n (by omega) (by omega) w
  have HN := Lib.hid hn
  rw [← hn] at hl ⊢
  have n0 : (0 : Int) ≤ (n : Int) := by omega
  have ks := fun (x y : Ct) (w : World) => shares_any x y w
  have KS := Lib.hid ks
  have HMK := Lib.hid hmk
  clear hV hn ks
  go_enter Try.func8, Try.ntmps8; (try simp only [List.append_eq, List.cons_append, List.nil_append])
  go_wp2_with fail
  clear hmk
  go_loopw [4, 5] (fun t4 t5 wr => ∃ (i : Nat) (d : List Bool) (B : Option Addr) (e : Nat), i ≤ n ∧ t5 = .int .i64 i ∧ t4 = .slice B (groupsL l i).length e ∧ Hid (DoneI n (shL l) i d ∧ DAt wr w.heap.size d ∧ GsOwn wr (w.heap.size + 1) wr.heap.size B e (groupsL l i) ∧ Below w.heap.size w wr ∧ w.heap.size + 1 ≤ wr.heap.size)) (fun _ t5 _ => n - (intOf t5).toNat)
  case atStart =>
    refine ⟨0, List.replicate n false, none, 0, by omega, rfl, rfl, Lib.hid ⟨DoneI.zero n _, DAt.made w n _, ?_, by ((with_reducible (repeat (first | exact bR _ _ | refine bS ?_ ?_ _ | refine bA ?_ ?_ _ | refine bD ?_ | refine bT ?_ (by assumption) ?_ | refine bO (by assumption) ?_ ?_))) <;> (first | omega | (simp; done) | (simp <;> omega))), by simp⟩⟩
    exact GsOwn.nil _ _ _
  case round =>
    obtain ⟨i, d, B, e, hi, rfl, rfl, HR⟩ := hrel
    obtain ⟨w0, rfl⟩ : ∃ z, z = wr := ⟨_, rfl⟩
    have i1 : (0 : Int) ≤ (i : Int) := by omega
    by_cases hlt : i < n
    · have i2 : (i : Int) < (n : Int) := by omega
      obtain ⟨b, hb⟩ : ∃ b, d[i]? = some b := ⟨d[i]'(by rw [HR.out.1.1]; exact hlt), by simp⟩
      have hc := HR.out.2.1.2.2 i b hb
      have hD := HR.out.2.2.2.2
      have HBD := Lib.hid hb
      clear hb
      cases b
      · have hd0 := DAt.made w0 n 4
        have hri : (List.replicate n false)[i]? = some false := by rw [List.getElem?_replicate, if_pos hlt]
        have hc2 := hd0.2.2 i false hri
        have hfz2 := hd0.2.1
        have hw : ((w0.alloc (.cells (madeCells #[Value.bool false] n) 4))).setCell ⟨w0.heap.size, i, none⟩ (.bool true) = w0.alloc (.cells ((madeCells #[Value.bool false] n).setIfInBounds i (.bool true)) 4) := by go_simp
        have HD1 := Lib.hid (show DAt (w0.alloc (.cells ((madeCells #[Value.bool false] n).setIfInBounds i (.bool true)) 4)) w0.heap.size ((List.replicate n false).set i true) by rw [← hw]; exact hd0.set (b := true) hri)
        have HRI := Lib.hid (RI.start (n := n) (sh := shL l) hlt)
        have HB1 := Lib.hid (show Below w0.heap.size w0 (w0.alloc (.cells ((madeCells #[Value.bool false] n).setIfInBounds i (.bool true)) 4)) by ((with_reducible (repeat (first | exact bR _ _ | refine bS ?_ ?_ _ | refine bA ?_ ?_ _ | refine bD ?_ | refine bT ?_ (by assumption) ?_ | refine bO (by assumption) ?_ ?_))) <;> (first | omega | (simp; done) | (simp <;> omega))))
        clear hw
        have hmk := HMK.out
        clear hd0
        go_wp2_with fail
        clear hmk hc hc2 hfz2
        go_loopg [7] (falses ((List.replicate n false).set i true) + 1) (fun gk t7 wr => ∃ (more : Bool) (b : List Bool), t7 = .bool more ∧ (if more = true then falses b + 1 else 0) ≤ gk ∧ Hid (RI n (shL l) i b ∧ (more = false → Clos n (shL l) b n 0) ∧ DAt wr w0.heap.size b ∧ Below w0.heap.size w0 wr))
        case atStart => exact ⟨true, _, rfl, by simp, Lib.hid ⟨HRI.out, (fun h => absurd h (by decide)), HD1.out, HB1.out⟩⟩
        case round =>
          clear HD1 HRI HB1
          obtain ⟨more, b, rfl, hgk, HL⟩ := hrel
          obtain ⟨w1, rfl⟩ : ∃ z, z = wr := ⟨_, rfl⟩
          cases more
          · have hCl := HL.out.2.1 rfl
            have HCL := Lib.hid hCl
            have HD0 := Lib.hid (HR.out.2.1.below HL.out.2.2.2 hD)
            clear hgk hCl
            go_wp2_with fail
            go_loopw [10, 11] (fun t10 t11 wr => ∃ (m : Nat) (G : Option Addr) (q : Nat), m ≤ n ∧ t11 = .int .i64 m ∧ t10 = .slice G (natI (marked b m)).length q ∧ Hid (DAt wr w.heap.size (orTo d b m) ∧ DAt wr w0.heap.size b ∧ OwnI wr (w0.heap.size + 1) G q (natI (marked b m)) ∧ Same (w.heap.size + 1) w0.heap.size w0 wr ∧ Below w.heap.size w wr)) (fun _ t11 _ => n - (intOf t11).toNat)
            case atStart =>
              refine ⟨0, none, 0, by omega, rfl, rfl, Lib.hid ⟨by rw [orTo_zero]; exact HD0.out, HL.out.2.2.1, OwnI.nil _ _, (Same.refl _ _ _).below HL.out.2.2.2 (Nat.le_refl _), HR.out.2.2.2.1.trans (HL.out.2.2.2.mono (by omega))⟩⟩
            case round =>
              obtain ⟨m, G, q, hm, rfl, rfl, HM⟩ := hrel
              obtain ⟨w2, rfl⟩ : ∃ z, z = wr := ⟨_, rfl⟩
              have m1 : (0 : Int) ≤ (m : Int) := by omega
              have hS2 : w0.heap.size ≤ w2.heap.size := HM.out.2.2.2.1.1
              have hI2 : w0.heap.size + 1 ≤ w2.heap.size := HM.out.2.1.1
              by_cases hmn : m < n
              · have m2 : (m : Int) < (n : Int) := by omega
                obtain ⟨x, hx⟩ : ∃ x, b[m]? = some x := ⟨b[m]'(by rw [HL.out.1.len]; exact hmn), by simp⟩
                obtain ⟨y, hy⟩ : ∃ y, (orTo d b m)[m]? = some y := ⟨(orTo d b m)[m]'(by rw [orTo_len, HR.out.1.1]; exact hmn), by simp⟩
                have HX := Lib.hid hx
                have HY := Lib.hid hy
                have hms := marked_suc b m
                have hos := orTo_suc d b m
                have cx := HM.out.2.1.2.2 m x hx
                have cy := HM.out.1.2.2 m y hy
                have cf := HM.out.1.2.1
                have hD2 := HM.out.1.1
                cases x
                · have hne : ¬ b[m]? = some true := by rw [hx]; simp
                  rw [if_neg hne] at hms hos
                  rw [List.append_nil] at hms
                  have HMS := Lib.hid hms
                  have HOS := Lib.hid hos
                  clear hx hy hms hos hne
                  go_wp2_with fail
                  go_roundw
                  case rel => exact ⟨m + 1, G, q, by omega, by go_num, by rw [HMS.out], Lib.hid ⟨by rw [HOS.out]; exact HM.out.1, HM.out.2.1, by rw [HMS.out]; exact HM.out.2.2.1, HM.out.2.2.2⟩⟩
                  case measure => simp [intOf]; omega
                · rw [if_pos hx] at hms hos
                  have hms2 : natI (marked b (m + 1)) = natI (marked b m) ++ [(m : Int)] := by rw [hms, natI_snoc]
                  have HMS := Lib.hid hms2
                  have HOS := Lib.hid hos
                  have hml := marked_len b m
                  clear hx hy hms hos hms2
                  go_wp2_with (at_builtin; go_must (refine wpList_append_one rfl _ _ 27 3 _ 1 8 rfl Try.underlying27 infI rfl (by decide) (by decide) (w0.heap.size + 1) _ (natI (marked b m)).length ((natI (marked b m)).map (Value.int .i64)) [.int .i64 (m : Int)] rfl (show OwnI _ (w0.heap.size + 1) G q (natI (marked b m)) by ((repeat (first | (with_reducible exact HM.out.2.2.1) | (with_reducible refine OwnI.low ?_ ?_ _) | (with_reducible refine OwnI.alloc ?_ _))) <;> first | omega | (simp; done) | (simp <;> omega))) _ 1 rfl rfl (cell1 (by go_simp)) (by simp [Value.oneCell']) (by rw [natI_len]; omega) (by simp; omega) ?_))
                  intro v1 w5 hown5 hg5 _
                  obtain ⟨G5, q5, rfl, ho5⟩ := owni_snoc (l := natI (marked b m)) hown5
                  have hfr := HM.out.2.2.1.fresh
                  have hDA := (HM.out.1.alloc (.cells #[.int .i64 (m : Int)] 3)).grown hg5 (fun e => by have := hfr _ e.symm; omega)
                  have HDA := Lib.hid (hDA.set (b := true) HY.out)
                  have cy5 := hDA.2.2 m y HY.out
                  have cf5 := hDA.2.1
                  have hI5 := (HM.out.2.1.alloc (.cells #[.int .i64 (m : Int)] 3)).grown hg5 (fun e => by have := hfr _ e.symm; omega)
                  have HI5 := Lib.hid (hI5.block (w' := w5.setCell ⟨w.heap.size, m, none⟩ (.bool true)) (by simp) (Below.heap_setCell _ _ _ _ (by simp; omega)))
                  have HS5 := Lib.hid (((HM.out.2.2.2.1.alloc hS2 (.cells #[.int .i64 (m : Int)] 3)).grown hg5 (fun b hb => by have := hfr b hb; omega) (by simp; omega)).low (p := ⟨w.heap.size, m, none⟩) (by simp) (.bool true))
                  have HW5 := Lib.hid (((HM.out.2.2.2.2.alloc (by omega) (.cells #[.int .i64 (m : Int)] 3)).grown hg5 (by simp; omega) (fun b hb => by have := hfr b hb; omega)).setCell (p := ⟨w.heap.size, m, none⟩) (Nat.le_refl _) (.bool true))
                  have HO5 := Lib.hid (ho5.low (p := ⟨w.heap.size, m, none⟩) (by simp; omega) (.bool true))
                  have hD5 : w.heap.size < w5.heap.size := hDA.1
                  clear hg5 hown5 ho5 hfr hI5 hDA cx cy cf
                  go_wp2_with fail
                  go_roundw
                  case rel => exact ⟨m + 1, G5, q5, by omega, by go_num, by rw [HMS.out], Lib.hid ⟨by rw [HOS.out]; exact HDA.out, HI5.out, by rw [HMS.out]; exact HO5.out, HS5.out, HW5.out⟩⟩
                  case measure => simp [intOf]; omega
              · obtain rfl : m = n := by omega
                have HMG := Lib.hid (marked_grp HL.out.1 HCL.out)
                have HDN := Lib.hid (orTo_done HR.out.1 HL.out.1 HCL.out)
                have hnew := HR.out.1.new hlt HBD.out
                have HGE := Lib.hid (show groupsL l (i + 1) = groupsL l i ++ [natI (marked b m)] by have := groupsL_new (l := l) (m := i) (by rw [← HN.out]; exact hnew); rw [← HN.out] at this; rw [HMG.out]; exact this)
                obtain ⟨vs, r1, r2, r3, r4⟩ := (HR.out.2.2.1.same (HM.out.2.2.2.1.alloc hS2 (.cells #[.slice G (natI (marked b m)).length q] 27)))
                have R1 := Lib.hid r1
                have R2 := Lib.hid r2
                have R4 := Lib.hid r4
                have HX2 := Lib.hid (OwnI.alloc HM.out.2.2.1 (.cells #[.slice G (natI (marked b m)).length q] 27))
                have hgl := groupsL_len l i
                clear r1 r2 r3 r4 hnew
                generalize natI (marked b m) = GG at *
                go_wp2_with (at_builtin; go_must (refine wpList_append_one rfl _ _ 24 27 _ 1 24 rfl Try.underlying24 infIs rfl (by decide) (by decide) (w.heap.size + 1) _ (groupsL l i).length vs [.slice G GG.length q] rfl R1.out _ 1 rfl rfl (cell1 (by go_simp)) (by simp [Value.oneCell']) (by omega) (by simp; omega) ?_))
                intro v1 w5 hown5 hg5 _
                have hz5 := hg5.size
                have hz5' : w2.heap.size + 1 ≤ w5.heap.size := by simpa using hz5
                have hfr5 := fun b hb => (R1.out.lt b hb).1
                obtain ⟨B5, e5, rfl, hgs5⟩ := GsOwn.snoc (top := w0.heap.size) (by simp; omega) R1.out R2.out R4.out (OwnI.weaker HX2.out (by omega)) hown5 hg5
                have HG5 := Lib.hid hgs5
                have HD5 := Lib.hid ((HM.out.1.alloc _).grown hg5 (fun e => by have := hfr5 _ e.symm; omega))
                have HW5 := Lib.hid ((HM.out.2.2.2.2.alloc (by omega) _).grown hg5 (by simp; omega) (fun b hb => by have := hfr5 b hb; omega))
                clear hg5 hown5 hfr5 hgs5
                go_wp2_with fail
                go_roundw
                case rel => exact ⟨i + 1, orTo d b m, B5, e5, by omega, by go_num, by rw [HGE.out], Lib.hid ⟨HDN.out, HD5.out, by rw [HGE.out]; exact HG5.out, HW5.out, by omega⟩⟩
                case measure => simp [intOf]; omega
          · rw [if_pos rfl] at hgk
            go_wp2_with fail
            go_loopw [7, 8] (fun t7 t8 wr => ∃ (a : Nat) (more : Bool) (b' : List Bool), a ≤ n ∧ t8 = .int .i64 a ∧ t7 = .bool more ∧ Hid (RI n (shL l) i b' ∧ PassI n (shL l) b more b' a 0 ∧ DAt wr w0.heap.size b' ∧ Below w0.heap.size w0 wr)) (fun _ t8 _ => n - (intOf t8).toNat)
            case atStart => exact ⟨0, false, b, by omega, rfl, rfl, Lib.hid ⟨HL.out.1, PassI.zero _ _ _, HL.out.2.2⟩⟩
            case round =>
              obtain ⟨a, more, b1, ha, rfl, rfl, HM⟩ := hrel
              obtain ⟨w2, rfl⟩ : ∃ z, z = wr := ⟨_, rfl⟩
              have a1 : (0 : Int) ≤ (a : Int) := by omega
              by_cases han : a < n
              · have a2 : (a : Int) < (n : Int) := by omega
                go_wp2_with fail
                go_loopw [7, 9] (fun t7 t9 wr => ∃ (k : Nat) (more : Bool) (b' : List Bool), k ≤ n ∧ t9 = .int .i64 k ∧ t7 = .bool more ∧ Hid (RI n (shL l) i b' ∧ PassI n (shL l) b more b' a k ∧ DAt wr w0.heap.size b' ∧ Below w0.heap.size w0 wr)) (fun _ t9 _ => n - (intOf t9).toNat)
                case atStart => exact ⟨0, more, b1, by omega, rfl, rfl, HM⟩
                case round =>
                  clear HM
                  obtain ⟨k, more, b2, hk, rfl, rfl, HK⟩ := hrel
                  obtain ⟨w3, rfl⟩ : ∃ z, z = wr := ⟨_, rfl⟩
                  have k1 : (0 : Int) ≤ (k : Int) := by omega
                  by_cases hkn : k < n
                  · have k2 : (k : Int) < (n : Int) := by omega
                    have hlen := HK.out.1.len
                    obtain ⟨x, hx⟩ : ∃ x, b2[a]? = some x := ⟨b2[a], by simp⟩
                    obtain ⟨y, hy⟩ : ∃ y, b2[k]? = some y := ⟨b2[k], by simp⟩
                    obtain ⟨p, hp⟩ : ∃ y, l[a]? = some y := ⟨l[a]'(by rw [← HN.out]; exact han), by simp⟩
                    obtain ⟨r, hr⟩ : ∃ y, l[k]? = some y := ⟨l[k]'(by rw [← HN.out]; exact hkn), by simp⟩
                    have cx := HK.out.2.2.1.2.2 a x hx
                    have cy := HK.out.2.2.1.2.2 k y hy
                    have cf := HK.out.2.2.1.2.1
                    have hI := HK.out.2.2.1.1
                    have hW := HR.out.2.2.2.1.trans (HK.out.2.2.2.mono (by omega))
                    have hsh := shL_get hp hr
                    have ks := fun w => KS.out p r w
                    generalize shareB p r = S at hsh ks
                    obtain ⟨gl, ol, rfl, hgl, x0, x1, x2, x3, x4, x5, x6, x7, x8, x9⟩ := (HV.out.below hW (Nat.le_refl _)) a _ hp
                    obtain ⟨gl', ol', e0, _, y0, y1, y2, y3, y4, y5, y6, y7, y8, y9⟩ := (HV.out.below hW (Nat.le_refl _)) k _ hr
                    obtain ⟨rfl, rfl⟩ : gl = gl' ∧ ol = ol' := by simpa using e0
                    have HX := Lib.hid hx
                    have HY := Lib.hid hy
                    have HSH := Lib.hid hsh
                    obtain ⟨pb, pk, pi, pr0, pr1, pr2, pr3, pr4, pr5, pr6⟩ := p
                    obtain ⟨rb, rk, ri, rr0, rr1, rr2, rr3, rr4, rr5, rr6⟩ := r
                    simp only [Ct.v] at ks x0 x1 x2 x3 x4 x5 x6 x7 x8 x9 y0 y1 y2 y3 y4 y5 y6 y7 y8 y9
                    have K1 := Lib.hid ks
                    clear ks hx hy hp hr hsh e0 hW hlen
                    cases x
                    · go_wp2_with fail
                      -- own blocks: 
                      refine wp_region_warm (Own w3.heap.size w3) (by kernel_rfl) (by kernel_rfl) (Own.refl (Nat.le_refl _)).drew ?_
                      repeat (first | (refine wpWarm_step_off rfl (fun K hK => ?_); (go_simp; refine hK _ ?_; clear hK K)) | (apply wpWarm_step rfl; (focus (intro W' hS; have hcS := hS.cells.1; have hfS := hS.cells.2; go_simp; (first | done | exact rfl | exact ⟨rfl, hS⟩ | (go_at_call 19; exact (K1.out _).mono (fun _ _ h => ⟨h.1, hS.call h.2⟩)) | (go_simp; exact rfl)))); (intro K hK; go_simp; (try go_bits); refine hK _ ?_; clear hK K)) | (apply wpWarm_step_on rfl; (focus (intro W' hS; have hcS := hS.cells.1; have hfS := hS.cells.2; go_simp; (first | done | exact rfl | exact ⟨rfl, hS⟩ | (go_at_call 19; exact (K1.out _).mono (fun _ _ h => ⟨h.1, hS.call h.2⟩)) | (go_simp; exact rfl)))); (intro K hK; go_simp; (try go_bits); refine hK _ ?_; clear hK K)))
                      (refine wpWarm_nil ?_; intro w4 hO; have hz_w4 := hO.1; have hb_w4 := hO.2; clear hO; skip)
                      have HB4 := Lib.hid hb_w4
                      clear hb_w4 cx cy cf x0 x1 x2 x3 x4 x5 x6 x7 x8 x9 y0 y1 y2 y3 y4 y5 y6 y7 y8 y9 K1
                      go_wp2_with fail
                      go_roundw
                      case rel => exact ⟨k + 1, more, b2, by omega, by go_num, rfl, Lib.hid ⟨HK.out.1, HK.out.2.1.pass (fun h => by rw [HX.out] at h; simp at h), HK.out.2.2.1.below HB4.out hI, HK.out.2.2.2.trans (HB4.out.mono (by omega))⟩⟩
                      case measure => simp [intOf]; omega
                    · cases y
                      · go_wp2_with fail
                        -- own blocks: 
                        refine wp_region_warm (Own w3.heap.size w3) (by kernel_rfl) (by kernel_rfl) (Own.refl (Nat.le_refl _)).drew ?_
                        repeat (first | (refine wpWarm_step_off rfl (fun K hK => ?_); (go_simp; refine hK _ ?_; clear hK K)) | (apply wpWarm_step rfl; (focus (intro W' hS; have hcS := hS.cells.1; have hfS := hS.cells.2; go_simp; (first | done | exact rfl | exact ⟨rfl, hS⟩ | (go_at_call 19; exact (K1.out _).mono (fun _ _ h => ⟨h.1, hS.call h.2⟩)) | (go_simp; exact rfl)))); (intro K hK; go_simp; (try go_bits); refine hK _ ?_; clear hK K)) | (apply wpWarm_step_on rfl; (focus (intro W' hS; have hcS := hS.cells.1; have hfS := hS.cells.2; go_simp; (first | done | exact rfl | exact ⟨rfl, hS⟩ | (go_at_call 19; exact (K1.out _).mono (fun _ _ h => ⟨h.1, hS.call h.2⟩)) | (go_simp; exact rfl)))); (intro K hK; go_simp; (try go_bits); refine hK _ ?_; clear hK K)))
                        (refine wpWarm_nil ?_; intro w4 hO; have hz_w4 := hO.1; have hb_w4 := hO.2; clear hO; skip)
                        have HB4 := Lib.hid hb_w4
                        clear hb_w4 cx cy cf x0 x1 x2 x3 x4 x5 x6 x7 x8 x9 y0 y1 y2 y3 y4 y5 y6 y7 y8 y9 K1
                        cases S
                        · go_wp2_with fail
                          go_roundw
                          case rel => exact ⟨k + 1, more, b2, by omega, by go_num, rfl, Lib.hid ⟨HK.out.1, HK.out.2.1.pass (fun _ => .inr HSH.out), HK.out.2.2.1.below HB4.out hI, HK.out.2.2.2.trans (HB4.out.mono (by omega))⟩⟩
                          case measure => simp [intOf]; omega
                        · have HD4 := Lib.hid (HK.out.2.2.1.below HB4.out hI)
                          have cy := HD4.out.2.2 k false HY.out
                          have cf := HD4.out.2.1
                          have hI4 := HD4.out.1
                          have HS4 := Lib.hid (HD4.out.set (b := true) HY.out)
                          have HB5 := Lib.hid ((HK.out.2.2.2.trans (HB4.out.mono (by omega))).setCell (p := ⟨w0.heap.size, k, none⟩) (Nat.le_refl _) (.bool true))
                          go_wp2_with fail
                          go_roundw
                          case rel => exact ⟨k + 1, true, b2.set k true, by omega, by go_num, rfl, Lib.hid ⟨HK.out.1.add HX.out hkn HSH.out, HK.out.2.1.add HY.out, HS4.out, HB5.out⟩⟩
                          case measure => simp [intOf]; omega
                      · go_wp2_with fail
                        -- own blocks: 
                        refine wp_region_warm (Own w3.heap.size w3) (by kernel_rfl) (by kernel_rfl) (Own.refl (Nat.le_refl _)).drew ?_
                        repeat (first | (refine wpWarm_step_off rfl (fun K hK => ?_); (go_simp; refine hK _ ?_; clear hK K)) | (apply wpWarm_step rfl; (focus (intro W' hS; have hcS := hS.cells.1; have hfS := hS.cells.2; go_simp; (first | done | exact rfl | exact ⟨rfl, hS⟩ | (go_at_call 19; exact (K1.out _).mono (fun _ _ h => ⟨h.1, hS.call h.2⟩)) | (go_simp; exact rfl)))); (intro K hK; go_simp; (try go_bits); refine hK _ ?_; clear hK K)) | (apply wpWarm_step_on rfl; (focus (intro W' hS; have hcS := hS.cells.1; have hfS := hS.cells.2; go_simp; (first | done | exact rfl | exact ⟨rfl, hS⟩ | (go_at_call 19; exact (K1.out _).mono (fun _ _ h => ⟨h.1, hS.call h.2⟩)) | (go_simp; exact rfl)))); (intro K hK; go_simp; (try go_bits); refine hK _ ?_; clear hK K)))
                        (refine wpWarm_nil ?_; intro w4 hO; have hz_w4 := hO.1; have hb_w4 := hO.2; clear hO; skip)
                        have HB4 := Lib.hid hb_w4
                        clear hb_w4 cx cy cf x0 x1 x2 x3 x4 x5 x6 x7 x8 x9 y0 y1 y2 y3 y4 y5 y6 y7 y8 y9 K1
                        go_wp2_with fail
                        go_roundw
                        case rel => exact ⟨k + 1, more, b2, by omega, by go_num, rfl, Lib.hid ⟨HK.out.1, HK.out.2.1.pass (fun _ => .inl HY.out), HK.out.2.2.1.below HB4.out hI, HK.out.2.2.2.trans (HB4.out.mono (by omega))⟩⟩
                        case measure => simp [intOf]; omega
                  · obtain rfl : k = n := by omega
                    go_wp2_with fail
                    go_roundw
                    case rel => exact ⟨a + 1, more, b2, by omega, by go_num, rfl, Lib.hid ⟨HK.out.1, HK.out.2.1.row, HK.out.2.2⟩⟩
                    case measure => simp [intOf]; omega
              · obtain rfl : a = n := by omega
                have hlt2 := HM.out.2.1.less
                go_wp2_with fail
                go_roundg (if more = true then falses b1 + 1 else 0)
                case measure => omega
                case rel => exact ⟨more, b1, rfl, Nat.le_refl _, Lib.hid ⟨HM.out.1, fun h => HM.out.2.1.clos h, HM.out.2.2⟩⟩
      · have HGE := Lib.hid (show groupsL l (i + 1) = groupsL l i from groupsL_old (by rw [← HN.out]; exact HR.out.1.old HBD.out))
        go_wp2_with fail
        go_roundw
        case rel => exact ⟨i + 1, d, B, e, by omega, by go_num, by rw [HGE.out], Lib.hid ⟨HR.out.1.skip HBD.out, HR.out.2.1, by rw [HGE.out]; exact HR.out.2.2.1, HR.out.2.2.2.1, hD⟩⟩
        case measure => simp [intOf]; omega
    · obtain rfl : i = n := by omega
      go_wp2_with fail
      go_ret
      exact ⟨HR.out.2.2.2.1, B, e, rfl, HR.out.2.2.1.at⟩
end Go.Proofs.Ytgejdaincnclpaa
namespace Go.Proofs.Ytgejdaincnclpaa
open Go Go.RowKit
set_option linter.unusedVariables false
theorem groupsL_mem {l : List Ct} {m : Nat} {g : List Int} (h : g ∈ groupsL l m) : g.length ≤ l.length := by
  unfold groupsL at h
  obtain ⟨x, hx, rfl⟩ := List.mem_map.1 h
  rw [natI_len]
  exact groupsTo_mem hx
set_option maxRecDepth 100000 in
set_option maxHeartbeats 8000000 in
theorem groups_law (l : List Ct) (A : Option Addr) (c : Nat) (w : World) (hV : CAt w A l) (hlm : l.length ≤ maxLen) :
    Calls Try.prog 3 #[.slice A l.length c] w fun e w' => e = .returned (.bool true) ∧ Below w.heap.size w w' := by
  have ka := fun w => awake16_any w
  have KA := Lib.hid ka
  have HV := Lib.hid hV
  clear ka hV
  by_cases hl : 40 < l.length
  · have h1 : (40 : Int) < (l.length : Int) := by omega
    go_enter Try.func3, Try.ntmps3; (try simp only [List.append_eq, List.cons_append, List.nil_append])
    go_wp2_with fail
    -- own blocks: 
    (go_at_call 6; refine (KA.out _).mono ?_; rintro e w1 ⟨rfl, hb_w1⟩; have hz_w1 := hb_w1.size; (try simp at hz_w1); skip)
    go_wp2_with fail
    (go_at_call 6; refine (KA.out _).mono ?_; rintro e w2 ⟨rfl, hb_w2⟩; have hz_w2 := hb_w2.size; (try simp at hz_w2); skip)
    go_wp2_with fail
    go_ret
    exact ⟨rfl, by ((with_reducible (repeat (first | exact bR _ _ | refine bS ?_ ?_ _ | refine bA ?_ ?_ _ | refine bD ?_ | refine bT ?_ (by assumption) ?_ | refine bO (by assumption) ?_ ?_))) <;> (first | omega | (simp; done) | (simp <;> omega)))⟩
  · have h1 : ¬ (40 : Int) < (l.length : Int) := by omega
    have h2 : l.length ≤ 40 := by omega
    have kg := fun w' (h : Below w.heap.size w w') => groups_any l A c w' (HV.out.below h (Nat.le_refl _)) (by omega)
    have kr := fun w' (h : Below w.heap.size w w') => rgroups_any l A c w' (HV.out.below h (Nat.le_refl _)) (by omega)
    have hgl := groupsL_len l l.length
    have HGM := Lib.hid (fun (g : List Int) (h : g ∈ groupsL l l.length) => groupsL_mem h)
    generalize groupsL l l.length = gs at *
    have KG := Lib.hid kg
    have KR := Lib.hid kr
    have kn := fun (l : List Int) (A B : Option Addr) (c d : Nat) (w : World) h1 h2 h3 => numbers_yes l A B c d w h1 h2 h3
    have KN := Lib.hid kn
    have hne : ((gs.length : Int) != (gs.length : Int)) = false := by simp
    clear kg kr kn hl
    go_enter Try.func3, Try.ntmps3; (try simp only [List.append_eq, List.cons_append, List.nil_append])
    go_wp2_with fail
    -- own blocks: 
    (go_at_call 6; refine (KA.out _).mono ?_; rintro e w1 ⟨rfl, hb_w1⟩; have hz_w1 := hb_w1.size; (try simp at hz_w1); skip)
    have HB1 := Lib.hid (show Below w.heap.size w w1 by ((with_reducible (repeat (first | exact bR _ _ | refine bS ?_ ?_ _ | refine bA ?_ ?_ _ | refine bD ?_ | refine bT ?_ (by assumption) ?_ | refine bO (by assumption) ?_ ?_))) <;> (first | omega | (simp; done) | (simp <;> omega))))
    clear hb_w1
    go_wp2_with fail
    (go_at_call 7; refine (KG.out _ HB1.out).mono ?_; rintro e w2 ⟨hb_w2, G, q, rfl, hg⟩; have hz_w2 := hb_w2.size; (try simp at hz_w2); skip)
    have HB2 := Lib.hid (HB1.out.trans (hb_w2.mono HB1.out.size))
    have HG2 := Lib.hid hg
    clear hb_w2 hg
    go_wp2_with fail
    (go_at_call 8; refine (KR.out _ HB2.out).mono ?_; rintro e w3 ⟨hb_w3, H, q2, rfl, hg⟩; have hz_w3 := hb_w3.size; (try simp at hz_w3); skip)
    have HB3 := Lib.hid (HB2.out.trans (hb_w3.mono HB2.out.size))
    have HG3 := Lib.hid (HG2.out.below hb_w3 (Nat.le_refl _))
    have HH3 := Lib.hid hg
    clear hb_w3 hg HG2
    go_wp2_with fail
    go_loopw [5] (fun t5 wr => ∃ k : Nat, k ≤ gs.length ∧ t5 = .int .i64 k ∧ Hid (Below w3.heap.size w3 wr)) (fun t5 _ => gs.length - (intOf t5).toNat)
    case atStart => exact ⟨0, by omega, rfl, Lib.hid (Below.refl _ _)⟩
    case round =>
      obtain ⟨k, hk, rfl, HW⟩ := hrel
      have k1 : (0 : Int) ≤ (k : Int) := by omega
      by_cases hkl : k < gs.length
      · have k2 : (k : Int) < (gs.length : Int) := by omega
        obtain ⟨x, hx⟩ : ∃ x, gs[k]? = some x := ⟨gs[k], by simp⟩
        obtain ⟨b1, o1, X, e1, rfl, hb1, c1, i1⟩ := (HG3.out.below HW.out (Nat.le_refl _)) k x hx
        obtain ⟨b2, o2, Y, e2, rfl, hb2, c2, i2⟩ := (HH3.out.below HW.out (Nat.le_refl _)) k x hx
        have HI1 := Lib.hid i1
        have HI2 := Lib.hid i2
        have hxl := HGM.out x (List.mem_of_getElem? hx)
        have kn := fun w' (h : Below wr.heap.size wr w') => KN.out x X Y e1 e2 w' (HI1.out.below h (Nat.le_refl _)) (HI2.out.below h (Nat.le_refl _)) (by omega)
        have KX := Lib.hid kn
        clear hx i1 i2 kn
        go_wp2_with fail
        -- own blocks: 
        refine wp_region_warm (Own wr.heap.size wr) (by kernel_rfl) (by kernel_rfl) (Own.refl (Nat.le_refl _)).drew ?_
        repeat (first | (refine wpWarm_step_off rfl (fun K hK => ?_); (go_simp; refine hK _ ?_; clear hK K)) | (apply wpWarm_step rfl; (focus (intro W' hS; have hcS := hS.cells.1; have hfS := hS.cells.2; go_simp; (first | done | exact rfl | exact ⟨rfl, hS⟩ | (go_at_call 9; exact (KX.out _ hS.2).mono (fun _ _ h => ⟨h.1, hS.call h.2⟩)) | (go_simp; exact rfl)))); (intro K hK; go_simp; (try go_bits); refine hK _ ?_; clear hK K)) | (apply wpWarm_step_on rfl; (focus (intro W' hS; have hcS := hS.cells.1; have hfS := hS.cells.2; go_simp; (first | done | exact rfl | exact ⟨rfl, hS⟩ | (go_at_call 9; exact (KX.out _ hS.2).mono (fun _ _ h => ⟨h.1, hS.call h.2⟩)) | (go_simp; exact rfl)))); (intro K hK; go_simp; (try go_bits); refine hK _ ?_; clear hK K)))
        (refine wpWarm_nil ?_; intro w4 hO; have hz_w4 := hO.1; have hb_w4 := hO.2; clear hO; skip)
        have HB4 := Lib.hid (HW.out.trans (hb_w4.mono HW.out.size))
        clear hb_w4 c1 c2
        go_wp2_with fail
        go_roundw
        case rel => exact ⟨k + 1, by omega, by go_num, HB4⟩
        case measure => simp [intOf]; omega
      · obtain rfl : k = gs.length := by omega
        go_wp2_with fail
        go_ret
        exact ⟨rfl, HB3.out.trans (HW.out.mono HB3.out.size)⟩
end Go.Proofs.Ytgejdaincnclpaa
namespace Go.Proofs.Ytgejdaincnclpaa.lawCG
open Go.ChangeShapes Go.WideShapes Go.ChangeAt Go.RowKit
set_option linter.unusedVariables false
theorem walk (w : World) (a0 : Option Addr) (len0 cap0 n0 : Nat) (w0 : RowIs Try.prog w n0 22 [.slice a0 len0 cap0]) :
    Calls Try.prog 3 #[.slice a0 len0 cap0] w fun e w' => e = .returned (.bool true) ∧ Below w.heap.size w w' := by
  obtain ⟨hm, l, rfl, hV⟩ := contacts_open w0
  exact groups_law l a0 cap0 w hV hm
theorem own : ownKnob Try.prog.godebug = none := by kernel_rfl
theorem laidOut : laidOutB Try.prog = true := by kernel_rfl
set_option maxRecDepth 100000 in
theorem lifted (os : Os) (started : os.Started) (H : Type) (enc : TypeId × Value → H) :
    ReturnsInHanded {} Try.checked os 3 .any (Rows.clusterGroupsSpec.pre6 enc Try.prog Try.f3 Rows.clusterGroupsRow.domain false) (Rows.clusterGroupsSpec.post enc Try.prog Try.f3 false true false false) := by
  refine returnsInHanded_of_change (C := Try.checked) own started (by kernel_rfl) Try.func3
    (ChangeSpec.witness6 (enc := enc) (C := Try.checked) false ⟨#[], #[.slice none 0 0], []⟩ 8 (by kernel_rfl) (by kernel_rfl) (by kernel_rfl) (by kernel_rfl)) ?_
  intro W base args ds gs before hval0 hW hcnd _
  have hval : ∀ (j : Nat) t v, Try.f3.params[j]? = some t → args[j]? = some v → Value.okWide Try.prog W .any base t v := hval0
  have hW' := hW
  obtain ⟨p, q, hA0, hV, rfl, hfz, hnd⟩ := hW
  have hA : DataW.TrodAll enc Try.prog W 0 (fun _ => true) true Try.f3.params.toList args.toList ds p := hA0
  rw [Try.params3] at hA hval
  obtain ⟨v0, vs0, d0, ds0, p0, q0, hargs, rfl, rfl, h0, r0⟩ := trodAll_cons hA
  obtain ⟨rfl, rfl, rfl⟩ := trodAll_nil r0
  obtain rfl : args = #[v0] := by cases args; simp_all
  obtain ⟨rfl, rfl⟩ := trodVars_none hV
  obtain ⟨a0, len0, cap0, rfl⟩ := okWide_slice Try.underlying22 (hval 0 22 v0 rfl rfl)
  have k0 := h0
  have lt0 : ∀ x ∈ p0, x.block < W.heap.size := by obtain ⟨m, hm⟩ := k0; exact DataW.trod_lt m _ _ _ hm
  obtain ⟨n0, w0⟩ : ∃ n, RowIs Try.prog W n 22 [.slice a0 len0 cap0] := by obtain ⟨fuel, hf⟩ := h0; exact ⟨fuel, rowIs_of_trod fuel _ _ _ hf⟩
  clear hA0 hval0
  refine (walk W a0 len0 cap0 n0 w0).mono fun e W' ⟨he, bel⟩ => ?_
  subst he
  exact ⟨_, rfl, _, _, _, [], _, [], hW', trodAll_mk1 (shut_bool Try.underlying4 _), (trodAll_cons_mk (Below.trod laidOut (by kernel_rfl) (of_decide_eq_true (by kernel_rfl)) k0 bel lt0) trodAll_mk0), rfl, bel.frame _, fun h => by cases h⟩
theorem over : Rows.clusterGroupsRow.holds Try.pinned (OpenSpec.ofChange Rows.clusterGroupsSpec) :=
  OpenClaim.holds_of_wide 3 Try.f3 rfl rfl rfl rfl rfl rfl rfl ⟨rfl, rfl, rfl, rfl, rfl⟩ rfl rfl rfl rfl rfl (by kernel_rfl) Try.func3 (by kernel_rfl)
    (of_decide_eq_true (by kernel_rfl)) (by unfold Func.isWrapper; first | (rw [if_pos (by decide +kernel)]; kernel_rfl) | (rw [if_neg (by decide +kernel)]; exact ⟨rfl, rfl⟩))
    (fun os started H enc _ => lifted os started H enc)
theorem proved : Rows.ClusterGroupsSaid := over
#print axioms proved
end Go.Proofs.Ytgejdaincnclpaa.lawCG
