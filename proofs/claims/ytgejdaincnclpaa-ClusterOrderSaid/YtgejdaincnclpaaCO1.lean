/- Law ClusterOrder returns true for every list of meetings and every list of vectors; each argument reads afterwards as it read before. No conditions. Merged texts: Open OpenV Vec LiftW OpenVs OpenL ClO VecE RsP RsU ClS ClM ClY ClK LawCO (what no proof of the claim needs is left out). -/
import Derived.Test.YtgejdaincnclpaaCb6
import Derived.ProofKit
import Derived.OpenShut
import Derived.ChangeOld
import Derived.Below
import Derived.Carry
import Derived.Test.YtgejdaincnclpaaProg
import Derived.KernelRfl
import Derived.WalkKit
import Derived.WalkSpells
import Derived.WalkLawsBesides
import Derived.Outline
import Derived.Test.YtgejdaincnclpaaShelfS
import Derived.Sort.Grow
import Derived.Lib.SlicesCompact
import Derived.Test.YtgejdaincnclpaaRows
namespace Go.Proofs.Ytgejdaincnclpaa
open Go Go.ChangeShapes Go.WideShapes Go.ChangeAt Go.RowKit
/-- What the cells of a datum of type t are, below n levels. -/
def RowIs (P : Program) (w : World) : Nat → TypeId → List Value → Prop
  | 0, _, _ => False
  | n + 1, t, cs =>
    match P.underlying t with
    | some (.int k) => ∃ z, cs = [.int k z] ∧ (Lit.int k z).wf = true
    | some .bool => ∃ b, cs = [.bool b]
    | some .string => ∃ s : ByteArray, cs = [.string s] ∧ s.size ≤ maxLen
    | some (.struct fs) => cs.length = P.cellsOf t ∧ ∀ f ∈ fs.toList, RowIs P w n f.type ((cs.drop f.offset).take (P.cellsOf f.type))
    | some (.slice e) => cs = [.slice none 0 0] ∨ ∃ (a : Addr) (len cap : Nat), cs = [.slice (some a) len cap] ∧ len ≤ cap ∧ cap ≤ maxLen ∧
        ∀ i, i < len → ∃ row, row.length = P.cellsOf e ∧ (∀ j v, row[j]? = some v → w.cell? (a.add (i * P.cellsOf e + j)) = some v) ∧ RowIs P w n e row
    | _ => True
section
variable {H : Type} {enc : TypeId × Value → H} {P : Program} {w : World}
theorem cells_at {base : Nat} {a : Addr} {n : Nat} {row : List Value} (h : w.cells? base a n = some row) : row.length = n ∧ ∀ j v, row[j]? = some v → w.cell? (a.add j) = some v := by
  unfold World.cells? at h
  split at h
  · have hl := mapM_some_length h
    simp at hl
    refine ⟨hl, fun j v hj => ?_⟩
    have hlt : j < n := by rw [← hl]; exact (List.getElem?_eq_some_iff.1 hj).1
    have := mapM_some_get h j j (by simp [hlt])
    rw [this, hj]
  · cases h
theorem add_add' (a : Addr) (i j : Nat) : (a.add i).add j = a.add (i + j) := by
  unfold Addr.add
  by_cases hi : i = 0 <;> by_cases hj : j = 0 <;> simp [hi, hj, Nat.add_assoc]
theorem rowIs_of_trod {base : Nat} {spare : Nat → Bool} {held : Bool} : ∀ (fuel : Nat) (t : TypeId) (cs : List Value) (x : DataW H × List MemPlace), DataW.trod enc P w base spare held fuel t cs = some x → RowIs P w fuel t cs := by
  intro fuel
  induction fuel with
  | zero => intro t cs x h; simp [DataW.trod] at h
  | succ n ih =>
    intro t cs x h
    cases hu : P.underlying t with
    | none => simp only [RowIs, hu]
    | some d =>
      cases d with
      | bool => obtain ⟨b, hb, _⟩ := DataW.trod_bool hu h; simp only [RowIs, hu]; exact ⟨b, hb⟩
      | int k => obtain ⟨z, hz, _, hw⟩ := DataW.trod_int hu h; simp only [RowIs, hu]; exact ⟨z, hz, hw⟩
      | string => obtain ⟨s, hs, _, hw⟩ := DataW.trod_string hu h; simp only [RowIs, hu]; exact ⟨s, hs, hw⟩
      | struct fs =>
        obtain ⟨xs, m, hm, _, hl, hxl, hf⟩ := DataW.trod_struct hu h
        obtain rfl : m = n := by omega
        simp only [RowIs, hu]
        refine ⟨hl, fun f hfm => ?_⟩
        obtain ⟨i, hi⟩ := List.getElem?_of_mem hfm
        have h1 := hf i f (by simpa using hi)
        have hlt : i < xs.length := by rw [hxl]; have := (List.getElem?_eq_some_iff.1 hi).1; simpa using this
        rw [List.getElem?_eq_getElem hlt] at h1
        exact ih _ _ _ h1
      | slice e =>
        simp only [RowIs, hu]
        rcases DataW.trod_slice hu h with ⟨h0, _⟩ | ⟨a, len, cap, elems, rest, m, hm, hcs, _, _, hlc, hcap, hel, hat, _⟩
        · exact .inl h0
        · obtain rfl : m = n := by omega
          refine .inr ⟨a, len, cap, hcs, hlc, hcap, fun i hi => ?_⟩
          have h1 := hat i hi
          have hlt : i < elems.length := by omega
          rw [List.getElem?_eq_getElem hlt] at h1
          obtain ⟨row, hr, ht⟩ := Option.bind_eq_some_iff.1 h1
          obtain ⟨hl, hc⟩ := cells_at hr
          exact ⟨row, hl, fun j v hj => by rw [← add_add']; exact hc j v hj, ih _ _ _ ht⟩
      | _ => simp only [RowIs, hu]
theorem rowIs_int {n : Nat} {t : TypeId} {k : IntKind} {cs : List Value} (hu : P.underlying t = some (.int k)) (h : RowIs P w n t cs) : ∃ z, cs = [.int k z] ∧ (Lit.int k z).wf = true := by
  cases n with
  | zero => exact h.elim
  | succ n => simpa only [RowIs, hu] using h
theorem rowIs_struct {n : Nat} {t : TypeId} {fs : Array Field} {cs : List Value} (hu : P.underlying t = some (.struct fs)) (h : RowIs P w n t cs) :
    cs.length = P.cellsOf t ∧ ∃ m, ∀ f ∈ fs.toList, RowIs P w m f.type ((cs.drop f.offset).take (P.cellsOf f.type)) := by
  cases n with
  | zero => exact h.elim
  | succ n => simp only [RowIs, hu] at h; exact ⟨h.1, n, h.2⟩
theorem rowIs_slice {n : Nat} {t e : TypeId} {cs : List Value} (hu : P.underlying t = some (.slice e)) (h : RowIs P w n t cs) :
    cs = [.slice none 0 0] ∨ ∃ (a : Addr) (len cap m : Nat), cs = [.slice (some a) len cap] ∧ len ≤ cap ∧ cap ≤ maxLen ∧
        ∀ i, i < len → ∃ row, row.length = P.cellsOf e ∧ (∀ j v, row[j]? = some v → w.cell? (a.add (i * P.cellsOf e + j)) = some v) ∧ RowIs P w m e row := by
  cases n with
  | zero => exact h.elim
  | succ n =>
    simp only [RowIs, hu] at h
    rcases h with h | ⟨a, len, cap, h1, h2, h3, h4⟩
    · exact .inl h
    · exact .inr ⟨a, len, cap, n, h1, h2, h3, h4⟩
theorem len1 {α : Type} {l : List α} (h : l.length = 1) : ∃ a, l = [a] := by
  match l, h with
  | [a], _ => exact ⟨a, rfl⟩
theorem len2 {α : Type} {l : List α} (h : l.length = 2) : ∃ a b, l = [a, b] := by
  match l, h with
  | [a, b], _ => exact ⟨a, b, rfl⟩
theorem all2 {α : Type} {p : α → Prop} {a b : α} (h : ∀ x ∈ (#[a, b] : Array α).toList, p x) : p a ∧ p b := ⟨h a (by simp), h b (by simp)⟩
theorem wf_bd {z : Int} (h : (Lit.int .i64 z).wf = true) : -9223372036854775808 ≤ z ∧ z ≤ 9223372036854775807 := by
  simp [Lit.wf, IntKind.min, IntKind.max, IntKind.signed, IntKind.bits] at h
  omega
end
end Go.Proofs.Ytgejdaincnclpaa
namespace Go.Proofs.Ytgejdaincnclpaa
open Go
def Bd (z : Int) : Prop := -9223372036854775808 ≤ z ∧ z ≤ 9223372036854775807
theorem cells_int : Try.prog.cellsOf 3 = 1 := by kernel_rfl
theorem cells_vec : Try.prog.cellsOf 32 = 2 := by kernel_rfl
theorem row_vec {w : World} {n : Nat} {cs : List Value} (h : RowIs Try.prog w n 32 cs) : ∃ x y : Int, cs = [.int .i64 x, .int .i64 y] ∧ Bd x ∧ Bd y := by
  obtain ⟨hl, m, hf⟩ := rowIs_struct Try.underlying32 h
  rw [cells_vec] at hl
  obtain ⟨c0, c1, rfl⟩ := len2 hl
  obtain ⟨h0, h1⟩ := all2 hf
  simp only [cells_int, List.drop_zero, List.drop_succ_cons, List.take_succ_cons, List.take_zero] at h0 h1
  obtain ⟨x, hx, wx⟩ := rowIs_int Try.underlying3 h0
  obtain ⟨y, hy, wy⟩ := rowIs_int Try.underlying3 h1
  simp only [List.cons.injEq, and_true] at hx hy
  exact ⟨x, y, by rw [hx, hy], wf_bd wx, wf_bd wy⟩
end Go.Proofs.Ytgejdaincnclpaa
namespace Go.Proofs.Ytgejdaincnclpaa
open Go.RowKit
theorem ret_vec {a b c d : Int} (h : a = c) (h' : b = d) : Ending.returned (.agg #[.int .i64 a, .int .i64 b]) = .returned (.agg #[.int .i64 c, .int .i64 d]) := by rw [h, h']
def keptI (x y z : Int) : Int := if smallB x y = true then z else 0
set_option maxHeartbeats 400000 in
theorem kept_any (x y : Int) (w : World) :
    Calls Try.prog 30 #[.agg #[.int .i64 x, .int .i64 y]] w fun e w' => e = .returned (.agg #[.int .i64 (keptI x y x), .int .i64 (keptI x y y)]) ∧ Below w.heap.size w w' := by
  go_enter Try.func30, Try.ntmps30
  go_wp2_with (first | (go_at_call 28; refine (small_any _ _ _).mono ?_; rintro e w1 ⟨rfl, hb1⟩; have hz1 : w.heap.size + 2 ≤ w1.heap.size := (by have h := hb1.size; (try simp at h); omega); have hbb := Below.mono hb1 (B' := w.heap.size + 2) (by (try simp) <;> omega); clear hb1; (with_reducible apply cel2 (b := w.heap.size) hbb); (focus ((try simp) <;> omega)); (focus omega); (focus (go_simp; try exact rfl)); (focus (go_simp; try exact rfl)); (focus (intro o; go_simp)); intro cc cc fz hl; (with_reducible apply cel2 (b := w.heap.size + 1) hbb); (focus ((try simp) <;> omega)); (focus omega); (focus (go_simp; try exact rfl)); (focus (go_simp; try exact rfl)); (focus (intro o; go_simp)); intro cc cc fz hl))
  · rename_i hs
    refine bodyPost_ret (v := .agg #[.int .i64 0, .int .i64 0]) (by simp only [results, Try.results30]; go_simp) rfl ⟨?_, ?_⟩
    refine ret_vec ?_ ?_
    · simp [keptI] at hs ⊢; simp [hs]
    · simp [keptI] at hs ⊢; simp [hs]
    · ((with_reducible (repeat (first | exact bR _ _ | refine bS ?_ ?_ _ | refine bA ?_ ?_ _ | refine bD ?_ | refine bT ?_ (by assumption) ?_ | refine bO (by assumption) ?_ ?_))) <;> (first | omega | (simp; done) | (simp <;> omega)))
  · rename_i hs
    refine bodyPost_ret (v := .agg #[.int .i64 x, .int .i64 y]) (by simp only [results, Try.results30]; go_simp) rfl ⟨?_, ?_⟩
    refine ret_vec ?_ ?_
    · simp [keptI] at hs ⊢; simp [hs]
    · simp [keptI] at hs ⊢; simp [hs]
    · ((with_reducible (repeat (first | exact bR _ _ | refine bS ?_ ?_ _ | refine bA ?_ ?_ _ | refine bD ?_ | refine bT ?_ (by assumption) ?_ | refine bO (by assumption) ?_ ?_))) <;> (first | omega | (simp; done) | (simp <;> omega)))
set_option maxHeartbeats 400000 in
theorem scale_in (a b n : Int) (w : World) (h1 : smallB a b = true) (h2 : -1073741824 ≤ n) (h3 : n ≤ 1073741824) :
    Calls Try.prog 14 #[.agg #[.int .i64 a, .int .i64 b], .int .i64 n] w fun e w' => e = .returned (.agg #[.int .i64 (keptI (a * n) (b * n) (a * n)), .int .i64 (keptI (a * n) (b * n) (b * n))]) ∧ Below w.heap.size w w' := by
  have hr1 : -1073741824 ≤ a ∧ a ≤ 1073741824 ∧ -1073741824 ≤ b ∧ b ≤ 1073741824 := by simpa [smallB] using h1
  obtain ⟨q1, q2, q3, q4⟩ := hr1
  have m1 := mul_bd a n 1073741824 1073741824 q1 q2 h2 h3
  have m2 := mul_bd b n 1073741824 1073741824 q3 q4 h2 h3
  obtain ⟨m1a, m1b⟩ := m1
  obtain ⟨m2a, m2b⟩ := m2
  by_cases hab : a = 0 ∧ b = 0
  · obtain ⟨rfl, rfl⟩ := hab
    go_enter Try.func14, Try.ntmps14; (try simp only [List.append_eq, List.cons_append, List.nil_append])
    go_wp2_with (first | (go_at_call 28; refine (small_any _ _ _).mono ?_; rintro e w1 ⟨rfl, hb1⟩; have hz1 : w.heap.size + 2 ≤ w1.heap.size := (by have h := hb1.size; (try simp at h); omega); have hbb := Below.mono hb1 (B' := w.heap.size + 2) (by (try simp) <;> omega); clear hb1; (with_reducible apply cel2 (b := w.heap.size) hbb); (focus ((try simp) <;> omega)); (focus omega); (focus (go_simp; try exact rfl)); (focus (go_simp; try exact rfl)); (focus (intro o; go_simp)); intro cc cc fz hl; (with_reducible apply cel2 (b := w.heap.size + 1) hbb); (focus ((try simp) <;> omega)); (focus omega); (focus (go_simp; try exact rfl)); (focus (go_simp; try exact rfl)); (focus (intro o; go_simp)); intro cc cc fz hl) | (go_at_call 30; refine (kept_any _ _ _).mono ?_; rintro e w1 ⟨rfl, hb1⟩; have hz1 : w.heap.size + 2 ≤ w1.heap.size := (by have h := hb1.size; (try simp at h); omega); have hbb := Below.mono hb1 (B' := w.heap.size + 2) (by (try simp) <;> omega); clear hb1; (with_reducible apply cel2 (b := w.heap.size) hbb); (focus ((try simp) <;> omega)); (focus omega); (focus (go_simp; try exact rfl)); (focus (go_simp; try exact rfl)); (focus (intro o; go_simp)); intro cc cc fz hl; (with_reducible apply cel2 (b := w.heap.size + 1) hbb); (focus ((try simp) <;> omega)); (focus omega); (focus (go_simp; try exact rfl)); (focus (go_simp; try exact rfl)); (focus (intro o; go_simp)); intro cc cc fz hl))
    refine bodyPost_ret (v := .agg #[.int .i64 0, .int .i64 0]) (by simp only [results, Try.results14]; go_simp) rfl ⟨?_, ?_⟩
    · simp [keptI]
    · ((with_reducible (repeat (first | exact bR _ _ | refine bS ?_ ?_ _ | refine bA ?_ ?_ _ | refine bD ?_ | refine bT ?_ (by assumption) ?_ | refine bO (by assumption) ?_ ?_))) <;> (first | omega | (simp; done) | (simp <;> omega)))
  · have hne : (decide (a = 0) && decide (b = 0)) = false := by simpa using hab
    go_enter Try.func14, Try.ntmps14; (try simp only [List.append_eq, List.cons_append, List.nil_append])
    go_wp2_with (first | (go_at_call 28; refine (small_any _ _ _).mono ?_; rintro e w1 ⟨rfl, hb1⟩; have hz1 : w.heap.size + 2 ≤ w1.heap.size := (by have h := hb1.size; (try simp at h); omega); have hbb := Below.mono hb1 (B' := w.heap.size + 2) (by (try simp) <;> omega); clear hb1; (with_reducible apply cel2 (b := w.heap.size) hbb); (focus ((try simp) <;> omega)); (focus omega); (focus (go_simp; try exact rfl)); (focus (go_simp; try exact rfl)); (focus (intro o; go_simp)); intro cc cc fz hl; (with_reducible apply cel2 (b := w.heap.size + 1) hbb); (focus ((try simp) <;> omega)); (focus omega); (focus (go_simp; try exact rfl)); (focus (go_simp; try exact rfl)); (focus (intro o; go_simp)); intro cc cc fz hl) | (go_at_call 30; refine (kept_any _ _ _).mono ?_; rintro e w1 ⟨rfl, hb1⟩; have hz1 : w.heap.size + 2 ≤ w1.heap.size := (by have h := hb1.size; (try simp at h); omega); have hbb := Below.mono hb1 (B' := w.heap.size + 2) (by (try simp) <;> omega); clear hb1; (with_reducible apply cel2 (b := w.heap.size) hbb); (focus ((try simp) <;> omega)); (focus omega); (focus (go_simp; try exact rfl)); (focus (go_simp; try exact rfl)); (focus (intro o; go_simp)); intro cc cc fz hl; (with_reducible apply cel2 (b := w.heap.size + 1) hbb); (focus ((try simp) <;> omega)); (focus omega); (focus (go_simp; try exact rfl)); (focus (go_simp; try exact rfl)); (focus (intro o; go_simp)); intro cc cc fz hl))
    all_goals
      refine bodyPost_ret (v := .agg #[.int .i64 (keptI (a * n) (b * n) (a * n)), .int .i64 (keptI (a * n) (b * n) (b * n))]) (by simp only [results, Try.results14]; go_simp) rfl ⟨?_, ?_⟩
      · rfl
      · ((with_reducible (repeat (first | exact bR _ _ | refine bS ?_ ?_ _ | refine bA ?_ ?_ _ | refine bD ?_ | refine bT ?_ (by assumption) ?_ | refine bO (by assumption) ?_ ?_))) <;> (first | omega | (simp; done) | (simp <;> omega)))
end Go.Proofs.Ytgejdaincnclpaa
namespace Go.Proofs.Ytgejdaincnclpaa
open Go.RowKit
set_option linter.unusedVariables false
theorem flatV_snoc (l : List V2) (p : V2) : flatV (l ++ [p]) = flatV l ++ cellsOfV p := by simp [flatV]
end Go.Proofs.Ytgejdaincnclpaa
namespace Go.Proofs.Ytgejdaincnclpaa
open Go
theorem vs_open {w : World} {n : Nat} {A : Option Addr} {len cap : Nat} (h : RowIs Try.prog w n 30 [.slice A len cap]) :
    len ≤ maxLen ∧ ∃ l : List V2, l.length = len ∧ VAt w A l ∧ ∀ x ∈ l, Bd x.1 ∧ Bd x.2 := by
  have none0 : len = 0 → len ≤ maxLen ∧ ∃ l : List V2, l.length = len ∧ VAt w A l ∧ ∀ x ∈ l, Bd x.1 ∧ Bd x.2 := fun h0 => by
    subst h0
    exact ⟨by unfold maxLen; omega, [], rfl, VAt.nil _ _, by simp⟩
  rcases rowIs_slice Try.underlying30 h with h0 | ⟨a, len', cap', m, hcs, hlc, hcap, hrows⟩
  · simp only [List.cons.injEq, Value.slice.injEq, and_true] at h0
    exact none0 h0.2.1
  · simp only [List.cons.injEq, Value.slice.injEq, and_true] at hcs
    obtain ⟨rfl, rfl, rfl⟩ := hcs
    rcases Nat.eq_zero_or_pos len with h0 | h0
    · exact none0 h0
    · refine ⟨by omega, ?_⟩
      have hr : ∀ i, i < len → ∃ x : V2, (Bd x.1 ∧ Bd x.2) ∧ ∀ j v, [Value.int .i64 x.1, .int .i64 x.2][j]? = some v → w.cell? (a.add (i * 2 + j)) = some v := by
        intro i hi
        obtain ⟨row, hl, hc, hrow⟩ := hrows i hi
        obtain ⟨x, y, rfl, hs⟩ := row_vec hrow
        rw [cells_vec] at hc
        exact ⟨(x, y), hs, hc⟩
      obtain ⟨x0, _, hx0⟩ := hr 0 h0
      have hc0 := hx0 0 _ rfl
      obtain ⟨g, o, spot⟩ := a
      have hsp : spot = none := by simpa [Addr.add] using World.cell?_spot hc0
      subst hsp
      have hg : g < w.heap.size := by
        have := World.block_lt_of_cell? w _ hc0
        simpa [Addr.add] using this
      clear hc0 hx0
      have build : ∀ m, m ≤ len → ∃ l : List V2, l.length = m ∧ (∀ k x, l[k]? = some x → (Bd x.1 ∧ Bd x.2) ∧ ∀ j v, [Value.int .i64 x.1, .int .i64 x.2][j]? = some v → w.cell? ((⟨g, o, none⟩ : Addr).add (k * 2 + j)) = some v) := by
        intro m
        induction m with
        | zero => intro _; exact ⟨[], rfl, fun k x h => by simp at h⟩
        | succ m ih =>
          intro hm
          obtain ⟨l, hl, hp⟩ := ih (by omega)
          obtain ⟨x, hx⟩ := hr m (by omega)
          refine ⟨l ++ [x], by simp [hl], fun k y hk => ?_⟩
          rcases Nat.lt_or_ge k l.length with h | h
          · rw [List.getElem?_append_left h] at hk; exact hp k y hk
          · rw [List.getElem?_append_right h] at hk
            have hk0 : k = m := by
              have := (List.getElem?_eq_some_iff.1 hk).1
              simp at this; omega
            subst hk0
            rw [hl, Nat.sub_self] at hk
            simp only [List.getElem?_cons_zero, Option.some.injEq] at hk
            subst hk
            exact hx
      obtain ⟨l, hl, hp⟩ := build len (Nat.le_refl _)
      have hadd : ∀ j, (⟨g, o, none⟩ : Addr).add j = ⟨g, o + j, none⟩ := by intro j; unfold Addr.add; split <;> simp_all
      refine ⟨l, hl, fun k x hx => ⟨g, o, rfl, hg, ?_, ?_⟩, fun x hx => ?_⟩
      · have := (hp k x hx).2 0 _ rfl; rwa [hadd, Nat.add_zero] at this
      · have := (hp k x hx).2 1 _ rfl; rwa [hadd, ← Nat.add_assoc] at this
      · obtain ⟨k, hk⟩ := List.getElem?_of_mem hx
        exact (hp k x hk).1
end Go.Proofs.Ytgejdaincnclpaa
namespace Go.Proofs.Ytgejdaincnclpaa
open Go Go.RowKit
theorem slice_open {α : Type} {w : World} {n : Nat} {t e : TypeId} {A : Option Addr} {len cap size : Nat} (hu : Try.prog.underlying t = some (.slice e)) (h : RowIs Try.prog w n t [.slice A len cap]) (hc : Try.prog.cellsOf e = size)
    (cells : α → List Value) (ok : α → Prop) (hpos : ∀ x, ∃ v r, cells x = v :: r) (hrow : ∀ m row, RowIs Try.prog w m e row → ∃ x, ok x ∧ row = cells x) :
    len ≤ maxLen ∧ ∃ l : List α, l.length = len ∧ (∀ x ∈ l, ok x) ∧ ∀ k x, l[k]? = some x → ∃ g o, A = some ⟨g, o, none⟩ ∧ g < w.heap.size ∧ ∀ j v, (cells x)[j]? = some v → w.cell? ⟨g, o + (k * size + j), none⟩ = some v := by
  have none0 : len = 0 → len ≤ maxLen ∧ ∃ l : List α, l.length = len ∧ (∀ x ∈ l, ok x) ∧ ∀ k x, l[k]? = some x → ∃ g o, A = some ⟨g, o, none⟩ ∧ g < w.heap.size ∧ ∀ j v, (cells x)[j]? = some v → w.cell? ⟨g, o + (k * size + j), none⟩ = some v := fun h0 => by
    subst h0
    exact ⟨by unfold maxLen; omega, [], rfl, by simp, fun k x h => by simp at h⟩
  rcases rowIs_slice hu h with h0 | ⟨a, len', cap', m, hcs, hlc, hcap, hrows⟩
  · simp only [List.cons.injEq, Value.slice.injEq, and_true] at h0
    exact none0 h0.2.1
  · simp only [List.cons.injEq, Value.slice.injEq, and_true] at hcs
    obtain ⟨rfl, rfl, rfl⟩ := hcs
    rcases Nat.eq_zero_or_pos len with h0 | h0
    · exact none0 h0
    · refine ⟨by omega, ?_⟩
      have hr : ∀ i, i < len → ∃ x : α, ok x ∧ ∀ j v, (cells x)[j]? = some v → w.cell? (a.add (i * size + j)) = some v := by
        intro i hi
        obtain ⟨row, hl, hc', hrw⟩ := hrows i hi
        obtain ⟨x, hx, rfl⟩ := hrow _ _ hrw
        rw [hc] at hc'
        exact ⟨x, hx, hc'⟩
      obtain ⟨x0, _, hx0⟩ := hr 0 h0
      obtain ⟨v0, r0, e0⟩ := hpos x0
      have hc0 := hx0 0 v0 (by rw [e0]; rfl)
      obtain ⟨g, o, spot⟩ := a
      have hsp : spot = none := by simpa [Addr.add] using World.cell?_spot hc0
      subst hsp
      have hg : g < w.heap.size := by
        have := World.block_lt_of_cell? w _ hc0
        simpa [Addr.add] using this
      clear hc0 hx0 e0
      have build : ∀ m, m ≤ len → ∃ l : List α, l.length = m ∧ (∀ k x, l[k]? = some x → ok x ∧ ∀ j v, (cells x)[j]? = some v → w.cell? ((⟨g, o, none⟩ : Addr).add (k * size + j)) = some v) := by
        intro m
        induction m with
        | zero => intro _; exact ⟨[], rfl, fun k x h => by simp at h⟩
        | succ m ih =>
          intro hm
          obtain ⟨l, hl, hp⟩ := ih (by omega)
          obtain ⟨x, hx⟩ := hr m (by omega)
          refine ⟨l ++ [x], by simp [hl], fun k y hk => ?_⟩
          rcases Nat.lt_or_ge k l.length with h | h
          · rw [List.getElem?_append_left h] at hk; exact hp k y hk
          · rw [List.getElem?_append_right h] at hk
            have hk0 : k = m := by
              have := (List.getElem?_eq_some_iff.1 hk).1
              simp at this; omega
            subst hk0
            rw [hl, Nat.sub_self] at hk
            simp only [List.getElem?_cons_zero, Option.some.injEq] at hk
            subst hk
            exact hx
      obtain ⟨l, hl, hp⟩ := build len (Nat.le_refl _)
      have hadd : ∀ j, (⟨g, o, none⟩ : Addr).add j = ⟨g, o + j, none⟩ := by intro j; unfold Addr.add; split <;> simp_all
      refine ⟨l, hl, fun x hx => ?_, fun k x hx => ⟨g, o, rfl, hg, fun j v hj => ?_⟩⟩
      · obtain ⟨k, hk⟩ := List.getElem?_of_mem hx
        exact (hp k x hk).1
      · have := (hp k x hx).2 j v hj; rwa [hadd] at this
end Go.Proofs.Ytgejdaincnclpaa
namespace Go.Proofs.Ytgejdaincnclpaa
open Go Go.RowKit
def Mt.bd (m : Mt) : Prop := (Bd m.a ∧ Bd m.b) ∧ (Bd m.n1 ∧ Bd m.n2) ∧ (Bd m.w1 ∧ Bd m.w2) ∧ (Bd m.k1 ∧ Bd m.k2) ∧ Bd m.e ∧ Bd m.g
theorem cells_meeting : Try.prog.cellsOf 34 = 10 := by kernel_rfl
theorem len10 {α : Type} {l : List α} (h : l.length = 10) : ∃ a b c d e f g i j k, l = [a, b, c, d, e, f, g, i, j, k] := by
  match l, h with
  | [a, b, c, d, e, f, g, i, j, k], _ => exact ⟨a, b, c, d, e, f, g, i, j, k, rfl⟩
theorem all7 {α : Type} {p : α → Prop} {a b c d e f g : α} (h : ∀ x ∈ (#[a, b, c, d, e, f, g] : Array α).toList, p x) : p a ∧ p b ∧ p c ∧ p d ∧ p e ∧ p f ∧ p g := ⟨h a (by simp), h b (by simp), h c (by simp), h d (by simp), h e (by simp), h f (by simp), h g (by simp)⟩
theorem row_meeting {w : World} {n : Nat} {cs : List Value} (h : RowIs Try.prog w n 34 cs) : ∃ x : Mt, x.bd ∧ cs = x.cells := by
  obtain ⟨hl, m, hf⟩ := rowIs_struct Try.underlying34 h
  rw [cells_meeting] at hl
  obtain ⟨c0, c1, c2, c3, c4, c5, c6, c7, c8, c9, rfl⟩ := len10 hl
  obtain ⟨h0, h1, h2, h3, h4, h5, h6⟩ := all7 hf
  simp only [cells_int, cells_vec, List.drop_zero, List.drop_succ_cons, List.take_succ_cons, List.take_zero] at h0 h1 h2 h3 h4 h5 h6
  obtain ⟨z0, e0, w0⟩ := rowIs_int Try.underlying3 h0
  obtain ⟨z1, e1, w1⟩ := rowIs_int Try.underlying3 h1
  obtain ⟨x2, y2, e2, b2, d2⟩ := row_vec h2
  obtain ⟨x3, y3, e3, b3, d3⟩ := row_vec h3
  obtain ⟨x4, y4, e4, b4, d4⟩ := row_vec h4
  obtain ⟨z5, e5, w5⟩ := rowIs_int Try.underlying3 h5
  obtain ⟨z6, e6, w6⟩ := rowIs_int Try.underlying3 h6
  simp only [List.cons.injEq, and_true] at e0 e1 e2 e3 e4 e5 e6
  exact ⟨⟨z0, z1, x2, y2, x3, y3, x4, y4, z5, z6⟩, ⟨⟨wf_bd w0, wf_bd w1⟩, ⟨b2, d2⟩, ⟨b3, d3⟩, ⟨b4, d4⟩, wf_bd w5, wf_bd w6⟩, by rw [e0, e1, e2.1, e2.2, e3.1, e3.2, e4.1, e4.2, e5, e6]; rfl⟩
theorem meetings_open {w : World} {n : Nat} {A : Option Addr} {len cap : Nat} (h : RowIs Try.prog w n 29 [.slice A len cap]) : len ≤ maxLen ∧ ∃ l : List Mt, l.length = len ∧ MAt w A l ∧ ∀ x ∈ l, x.bd := by
  obtain ⟨h1, l, hl, hok, hp⟩ := slice_open Try.underlying29 h cells_meeting Mt.cells Mt.bd (fun x => ⟨_, _, rfl⟩) (fun m row hr => row_meeting hr)
  refine ⟨h1, l, hl, fun k x hx => ?_, hok⟩
  obtain ⟨g, o, hA, hg, hc⟩ := hp k x hx
  have c0 := hc 0 _ rfl
  have c1 := hc 1 _ rfl
  have c2 := hc 2 _ rfl
  have c3 := hc 3 _ rfl
  have c4 := hc 4 _ rfl
  have c5 := hc 5 _ rfl
  have c6 := hc 6 _ rfl
  have c7 := hc 7 _ rfl
  have c8 := hc 8 _ rfl
  have c9 := hc 9 _ rfl
  simp only [← Nat.add_assoc, Nat.add_zero] at c0 c1 c2 c3 c4 c5 c6 c7 c8 c9
  exact ⟨g, o, hA, hg, c0, c1, c2, c3, c4, c5, c6, c7, c8, c9⟩
end Go.Proofs.Ytgejdaincnclpaa
namespace Go.Proofs.Ytgejdaincnclpaa
open Go.RowKit
set_option linter.unusedVariables false
def scaleR (a b n : Int) : V2 := if smallB a b = true ∧ (-1073741824 ≤ n ∧ n ≤ 1073741824) then keptR (a * n) (b * n) else (0, 0)
set_option maxHeartbeats 1000000 in
theorem vscale_any (a b n : Int) (w : World) :
    Calls Try.prog 14 #[.agg #[.int .i64 a, .int .i64 b], .int .i64 n] w fun e w' => e = .returned (.agg #[.int .i64 (scaleR a b n).1, .int .i64 (scaleR a b n).2]) ∧ Below w.heap.size w w' := by
  unfold scaleR
  by_cases h : smallB a b = true ∧ (-1073741824 ≤ n ∧ n ≤ 1073741824)
  · rw [if_pos h]
    obtain ⟨h1, h2, h3⟩ := h
    have hh := scale_in a b n w h1 h2 h3
    have e1 : keptI (a * n) (b * n) (a * n) = (keptR (a * n) (b * n)).1 := by unfold keptI keptR; split <;> rfl
    have e2 : keptI (a * n) (b * n) (b * n) = (keptR (a * n) (b * n)).2 := by unfold keptI keptR; split <;> rfl
    rw [e1, e2] at hh
    exact hh
  · rw [if_neg h]
    cases h1 : smallB a b
    · clear h
      go_enter Try.func14, Try.ntmps14; (try simp only [List.append_eq, List.cons_append, List.nil_append])
      go_wp2_with (first | (go_at_call 28; refine (vsmall_any _ _ _).mono ?_; rintro e w1 ⟨rfl, hb1⟩; have hz1 : w.heap.size + 2 ≤ w1.heap.size := (by have h := hb1.size; (try simp at h); omega); have hbb := Below.mono hb1 (B' := w.heap.size + 2) (by (try simp) <;> omega); clear hb1; (with_reducible apply cel2 (b := w.heap.size) hbb); (focus ((try simp) <;> omega)); (focus omega); (focus (go_simp; try exact rfl)); (focus (go_simp; try exact rfl)); (focus (intro o; go_simp)); intro cc cc fz hl; (with_reducible apply cel2 (b := w.heap.size + 1) hbb); (focus ((try simp) <;> omega)); (focus omega); (focus (go_simp; try exact rfl)); (focus (go_simp; try exact rfl)); (focus (intro o; go_simp)); intro cc cc fz hl))
      refine bodyPost_ret (v := .agg #[.int .i64 0, .int .i64 0]) (by simp only [results, Try.results14]; go_simp) rfl ⟨?_, ?_⟩
      · rfl
      · ((with_reducible (repeat (first | exact bR _ _ | refine bS ?_ ?_ _ | refine bA ?_ ?_ _ | refine bD ?_ | refine bT ?_ (by assumption) ?_ | refine bO (by assumption) ?_ ?_))) <;> (first | omega | (simp; done) | (simp <;> omega)))
    · by_cases hz : a = 0 ∧ b = 0
      · obtain ⟨rfl, rfl⟩ := hz
        clear h
        go_enter Try.func14, Try.ntmps14; (try simp only [List.append_eq, List.cons_append, List.nil_append])
        go_wp2_with (first | (go_at_call 28; refine (vsmall_any _ _ _).mono ?_; rintro e w1 ⟨rfl, hb1⟩; have hz1 : w.heap.size + 2 ≤ w1.heap.size := (by have h := hb1.size; (try simp at h); omega); have hbb := Below.mono hb1 (B' := w.heap.size + 2) (by (try simp) <;> omega); clear hb1; (with_reducible apply cel2 (b := w.heap.size) hbb); (focus ((try simp) <;> omega)); (focus omega); (focus (go_simp; try exact rfl)); (focus (go_simp; try exact rfl)); (focus (intro o; go_simp)); intro cc cc fz hl; (with_reducible apply cel2 (b := w.heap.size + 1) hbb); (focus ((try simp) <;> omega)); (focus omega); (focus (go_simp; try exact rfl)); (focus (go_simp; try exact rfl)); (focus (intro o; go_simp)); intro cc cc fz hl))
        refine bodyPost_ret (v := .agg #[.int .i64 0, .int .i64 0]) (by simp only [results, Try.results14]; go_simp) rfl ⟨?_, ?_⟩
        · rfl
        · ((with_reducible (repeat (first | exact bR _ _ | refine bS ?_ ?_ _ | refine bA ?_ ?_ _ | refine bD ?_ | refine bT ?_ (by assumption) ?_ | refine bO (by assumption) ?_ ?_))) <;> (first | omega | (simp; done) | (simp <;> omega)))
      · have hz' : ¬ a = 0 ∨ (a = 0 ∧ ¬ b = 0) := by omega
        rcases Int.lt_or_le n (-1073741824) with hn | hn
        · clear h hz
          rcases hz' with g | ⟨rfl, g⟩
          all_goals
            go_enter Try.func14, Try.ntmps14; (try simp only [List.append_eq, List.cons_append, List.nil_append])
            go_wp2_with (first | (go_at_call 28; refine (vsmall_any _ _ _).mono ?_; rintro e w1 ⟨rfl, hb1⟩; have hz1 : w.heap.size + 2 ≤ w1.heap.size := (by have h := hb1.size; (try simp at h); omega); have hbb := Below.mono hb1 (B' := w.heap.size + 2) (by (try simp) <;> omega); clear hb1; (with_reducible apply cel2 (b := w.heap.size) hbb); (focus ((try simp) <;> omega)); (focus omega); (focus (go_simp; try exact rfl)); (focus (go_simp; try exact rfl)); (focus (intro o; go_simp)); intro cc cc fz hl; (with_reducible apply cel2 (b := w.heap.size + 1) hbb); (focus ((try simp) <;> omega)); (focus omega); (focus (go_simp; try exact rfl)); (focus (go_simp; try exact rfl)); (focus (intro o; go_simp)); intro cc cc fz hl))
            refine bodyPost_ret (v := .agg #[.int .i64 0, .int .i64 0]) (by simp only [results, Try.results14]; go_simp) rfl ⟨?_, ?_⟩
            · rfl
            · ((with_reducible (repeat (first | exact bR _ _ | refine bS ?_ ?_ _ | refine bA ?_ ?_ _ | refine bD ?_ | refine bT ?_ (by assumption) ?_ | refine bO (by assumption) ?_ ?_))) <;> (first | omega | (simp; done) | (simp <;> omega)))
        · have hn' : ¬ n < -1073741824 := by omega
          have hn2 : 1073741824 < n := by
            rcases Int.lt_or_le 1073741824 n with g | g
            · exact g
            · exact absurd ⟨h1, hn, g⟩ h
          clear h hz hn
          rcases hz' with g | ⟨rfl, g⟩
          all_goals
            go_enter Try.func14, Try.ntmps14; (try simp only [List.append_eq, List.cons_append, List.nil_append])
            go_wp2_with (first | (go_at_call 28; refine (vsmall_any _ _ _).mono ?_; rintro e w1 ⟨rfl, hb1⟩; have hz1 : w.heap.size + 2 ≤ w1.heap.size := (by have h := hb1.size; (try simp at h); omega); have hbb := Below.mono hb1 (B' := w.heap.size + 2) (by (try simp) <;> omega); clear hb1; (with_reducible apply cel2 (b := w.heap.size) hbb); (focus ((try simp) <;> omega)); (focus omega); (focus (go_simp; try exact rfl)); (focus (go_simp; try exact rfl)); (focus (intro o; go_simp)); intro cc cc fz hl; (with_reducible apply cel2 (b := w.heap.size + 1) hbb); (focus ((try simp) <;> omega)); (focus omega); (focus (go_simp; try exact rfl)); (focus (go_simp; try exact rfl)); (focus (intro o; go_simp)); intro cc cc fz hl))
            refine bodyPost_ret (v := .agg #[.int .i64 0, .int .i64 0]) (by simp only [results, Try.results14]; go_simp) rfl ⟨?_, ?_⟩
            · rfl
            · ((with_reducible (repeat (first | exact bR _ _ | refine bS ?_ ?_ _ | refine bA ?_ ?_ _ | refine bD ?_ | refine bT ?_ (by assumption) ?_ | refine bO (by assumption) ?_ ?_))) <;> (first | omega | (simp; done) | (simp <;> omega)))
end Go.Proofs.Ytgejdaincnclpaa
namespace Go.Proofs.Ytgejdaincnclpaa
open Go Go.RowKit
set_option linter.unusedVariables false
theorem lowR_scale (k x y d : Int) (hk : 0 < k) (hd : 0 < d) : lowR (k * x) (k * y) (k * d) = lowR x y d := by
  have hp := lowG_pos x y d hd
  have e : (lowG (k * x) (k * y) (k * d) : Int) = k * (lowG x y d : Int) := by
    unfold lowG
    rw [Int.natAbs_mul, Int.natAbs_mul, Int.natAbs_mul, Nat.gcd_mul_left, Nat.gcd_mul_left, Int.natCast_mul, Int.natAbs_of_nonneg (Int.le_of_lt hk)]
  obtain ⟨h1, h2, h3⟩ := lowG_dvd x y d
  unfold lowR
  rw [e]
  have key : ∀ z : Int, (k * z).tdiv (k * (lowG x y d : Int)) = z.tdiv (lowG x y d : Int) := fun z => Int.mul_tdiv_mul_of_pos _ _ hk
  rw [key, key, key]
theorem lowR_neg (x y d : Int) : lowR (-x) y d = (-(lowR x y d).1, (lowR x y d).2.1, (lowR x y d).2.2) := by
  unfold lowR lowG
  rw [Int.natAbs_neg, Int.neg_tdiv]
end Go.Proofs.Ytgejdaincnclpaa
namespace Go.Proofs.Ytgejdaincnclpaa
open Go Go.RowKit
set_option linter.unusedVariables false
theorem within_flip (a b n : Int) : withinB (-a) b n = withinB a b n := by
  unfold withinB
  exact decide_eq_decide.2 (by omega)
theorem within_negs (a b n : Int) : withinB (-a) (-b) n = withinB a b n := by
  unfold withinB
  exact decide_eq_decide.2 (by omega)
theorem perm_flip (v1 v2 w1 w2 n1 n2 : Int) : permB (-v1) v2 (-w1) w2 (-n1) n2 = permB v1 v2 w1 w2 n1 n2 := by
  unfold permB
  rw [within_flip, within_flip, within_flip]
theorem appr_iff {v1 v2 w1 w2 n1 n2 : Int} (hp : permB v1 v2 w1 w2 n1 n2 = true) : apprB v1 v2 w1 w2 n1 n2 = decide ((v1 - w1) * n1 + (v2 - w2) * n2 < 0) := by
  obtain ⟨e1, e2, _⟩ := perm_vals hp
  unfold apprB
  rw [hp, e1, Bool.true_and]
  simp only
  rw [e2]
theorem appr_flip {v1 v2 w1 w2 n1 n2 : Int} (hp : permB v1 v2 w1 w2 n1 n2 = true) : apprB (-v1) v2 (-w1) w2 (-n1) n2 = apprB v1 v2 w1 w2 n1 n2 := by
  rw [appr_iff hp, appr_iff (by rw [perm_flip]; exact hp)]
  have : (-v1 - -w1) * -n1 + (v2 - w2) * n2 = (v1 - w1) * n1 + (v2 - w2) * n2 := by grind
  rw [this]
theorem stat_flip {v1 v2 w1 w2 n1 n2 e g : Int} (hp : permB v1 v2 w1 w2 n1 n2 = true) (he : sixB e = true) (hg : sixB g = true) :
    statR (-v1) v2 (-w1) w2 (-n1) n2 e g = (-(statR v1 v2 w1 w2 n1 n2 e g).1, (statR v1 v2 w1 w2 n1 n2 e g).2.1, (statR v1 v2 w1 w2 n1 n2 e g).2.2) := by
  have hf := appr_flip hp
  cases ha : apprB v1 v2 w1 w2 n1 n2
  · rw [statR_off hp ha he hg, statR_off (by rw [perm_flip]; exact hp) (by rw [hf]; exact ha) he hg]
  · rw [statR_on ha he hg, statR_on (by rw [hf]; exact ha) he hg, ← lowR_neg]
    have hm : -n1 * -n1 + n2 * n2 = n1 * n1 + n2 * n2 := by rw [Int.neg_mul_neg]
    have hc : (-v1 - -w1) * -n1 + (v2 - w2) * n2 = (v1 - w1) * n1 + (v2 - w2) * n2 := by grind
    rw [hm, hc]
    have h1 : statX (-v1) (-v1 - -w1) (-n1) (n1 * n1 + n2 * n2) ((v1 - w1) * n1 + (v2 - w2) * n2) e g = -statX v1 (v1 - w1) n1 (n1 * n1 + n2 * n2) ((v1 - w1) * n1 + (v2 - w2) * n2) e g := by unfold statX; grind
    rw [h1]
theorem pair_swap {v1 v2 w1 w2 n1 n2 e : Int} (hp : permB v1 v2 w1 w2 n1 n2 = true) (he : sixB e = true) :
    pairR w1 w2 v1 v2 (-n1) (-n2) e = ((pairR v1 v2 w1 w2 n1 n2 e).2, (pairR v1 v2 w1 w2 n1 n2 e).1) := by
  have hp2 : permB w1 w2 v1 v2 (-n1) (-n2) = true := by
    unfold permB at hp ⊢
    rw [within_negs, Bool.and_eq_true, Bool.and_eq_true] at *
    exact ⟨⟨hp.1.2, hp.1.1⟩, hp.2⟩
  have hc : (w1 - v1) * -n1 + (w2 - v2) * -n2 = (v1 - w1) * n1 + (v2 - w2) * n2 := by grind
  have hf : apprB w1 w2 v1 v2 (-n1) (-n2) = apprB v1 v2 w1 w2 n1 n2 := by rw [appr_iff hp, appr_iff hp2, hc]
  cases ha : apprB v1 v2 w1 w2 n1 n2
  · rw [pairR_off hp ha he, pairR_off hp2 (by rw [hf]; exact ha) he]
  · rw [pairR_on ha he, pairR_on (by rw [hf]; exact ha) he]
    have hm : -n1 * -n1 + -n2 * -n2 = n1 * n1 + n2 * n2 := by rw [Int.neg_mul_neg, Int.neg_mul_neg]
    rw [hm, hc]
    have key : ∀ z n : Int, pairX z (-n) (n1 * n1 + n2 * n2) ((v1 - w1) * n1 + (v2 - w2) * n2) e (-1) = pairX z n (n1 * n1 + n2 * n2) ((v1 - w1) * n1 + (v2 - w2) * n2) e 1 := fun z n => by unfold pairX; grind
    have key2 : ∀ z n : Int, pairX z (-n) (n1 * n1 + n2 * n2) ((v1 - w1) * n1 + (v2 - w2) * n2) e 1 = pairX z n (n1 * n1 + n2 * n2) ((v1 - w1) * n1 + (v2 - w2) * n2) e (-1) := fun z n => by unfold pairX; grind
    rw [key, key, key2, key2]
end Go.Proofs.Ytgejdaincnclpaa
namespace Go.Proofs.Ytgejdaincnclpaa
open Go Go.RowKit
set_option linter.unusedVariables false
theorem setI_congr {l r : List Int} (h : ∀ x, x ∈ l ↔ x ∈ r) : setI l = setI r := setI_eq (setI_asc r) fun x => (h x).trans (setI_mem r x).symm
end Go.Proofs.Ytgejdaincnclpaa
namespace Go.Proofs.Ytgejdaincnclpaa
open Go Go.RowKit
set_option linter.unusedVariables false
theorem sumR_pos {s r : Int × Int × Int} (hs : 0 < s.2.2) (hr : 0 < r.2.2) : 0 < (sumR s r).2.2 := by
  unfold sumR
  obtain ⟨G, hG, e1, e2, e3, hd⟩ := lowR_mul (s.1 * r.2.2 + r.1 * s.2.2) (s.2.1 * r.2.2 + r.2.1 * s.2.2) (s.2.2 * r.2.2) (Int.mul_pos hs hr)
  exact hd
theorem sum_low {x y d : Int} {b : Int × Int × Int} (hd : 0 < d) (hb : 0 < b.2.2) : sumR (lowR x y d) b = lowR (x * b.2.2 + b.1 * d) (y * b.2.2 + b.2.1 * d) (d * b.2.2) := by
  unfold sumR
  obtain ⟨G, hG, e1, e2, e3, hd'⟩ := lowR_mul x y d hd
  generalize lowR x y d = L at *
  obtain ⟨x', y', d'⟩ := L
  simp only at *
  rw [← lowR_scale G (x' * b.2.2 + b.1 * d') (y' * b.2.2 + b.2.1 * d') (d' * b.2.2) hG (Int.mul_pos hd' hb)]
  congr 1
  · rw [e1, e3]; grind
  · rw [e2, e3]; grind
  · rw [e3]; grind
theorem sum_comm {s a b : Int × Int × Int} (hs : 0 < s.2.2) (ha : 0 < a.2.2) (hb : 0 < b.2.2) : sumR (sumR s a) b = sumR (sumR s b) a := by
  have e1 : sumR s a = lowR (s.1 * a.2.2 + a.1 * s.2.2) (s.2.1 * a.2.2 + a.2.1 * s.2.2) (s.2.2 * a.2.2) := rfl
  have e2 : sumR s b = lowR (s.1 * b.2.2 + b.1 * s.2.2) (s.2.1 * b.2.2 + b.2.1 * s.2.2) (s.2.2 * b.2.2) := rfl
  rw [e1, e2, sum_low (Int.mul_pos hs ha) hb, sum_low (Int.mul_pos hs hb) ha]
  congr 1 <;> grind
theorem foldl_perm {l r : List (Int × Int × Int)} (p : l.Perm r) : ∀ z : Int × Int × Int, 0 < z.2.2 → (∀ a ∈ l, 0 < a.2.2) → l.foldl sumR z = r.foldl sumR z := by
  induction p with
  | nil => intro z _ _; rfl
  | cons x _ ih => intro z hz h; exact ih _ (sumR_pos hz (h x (by simp))) (fun a ha => h a (List.mem_cons_of_mem _ ha))
  | swap x y l =>
    intro z hz h
    show l.foldl sumR (sumR (sumR z y) x) = l.foldl sumR (sumR (sumR z x) y)
    rw [sum_comm hz (h y (by simp)) (h x (by simp))]
  | trans p _ ih1 ih2 => intro z hz h; rw [ih1 z hz h, ih2 z hz (fun a ha => h a (p.mem_iff.2 ha))]
theorem meanR_perm {l r : List (Int × Int × Int)} (p : l.Perm r) (h : ∀ a ∈ l, 0 < a.2.2) : meanR l = meanR r := by
  unfold meanR meanS
  rw [foldl_perm p (0, 0, 1) (by decide) h, p.length_eq]
def negX (r : Int × Int × Int) : Int × Int × Int := (-r.1, r.2.1, r.2.2)
theorem sumR_neg (s r : Int × Int × Int) : sumR (negX s) (negX r) = negX (sumR s r) := by
  unfold sumR negX
  simp only
  rw [← lowR_neg]
  congr 1
  grind
theorem meanR_neg (l : List (Int × Int × Int)) : meanR (l.map negX) = (-(meanR l).1, (meanR l).2) := by
  have key : ∀ (l : List (Int × Int × Int)) (s : Int × Int × Int), (l.map negX).foldl sumR (negX s) = negX (l.foldl sumR s) := by
    intro l
    induction l with
    | nil => intro s; rfl
    | cons r l ih =>
      intro s
      rw [List.map_cons, List.foldl_cons, List.foldl_cons, sumR_neg, ih]
  have h0 : meanS (l.map negX) = negX (meanS l) := by
    unfold meanS
    exact key l (0, 0, 1)
  unfold meanR
  rw [h0, List.length_map]
  unfold negX
  simp only
  rw [Int.neg_tdiv]
theorem clampR_neg (x : Int) : clampR (-x) = -clampR x := by unfold clampR; omega
/-- The meeting with its balls swapped. -/
def swapM (m : Mt) : Mt := if 0 ≤ m.b then { m with a := m.b, b := m.a, n1 := -m.n1, n2 := -m.n2 } else m
theorem swapM_perm {m : Mt} {n : Int} (h : PermM m n) : PermM (swapM m) n := by
  unfold swapM
  split
  · rename_i hb
    obtain ⟨a0, a1, b0, b1, ab, z, nn, w, k, e, g⟩ := h
    refine ⟨hb, b1, by simp only; omega, a1, fun h => ab h.symm, .inr ?_, by simp only; rw [within_negs]; exact nn, w, k, e, g⟩
    rcases z with z | z
    · omega
    · exact z
  · exact h
theorem pair_appr {a b c d n1 n2 : Int} (h1 : withinB a b 1048576 = true) (h2 : withinB c d 1048576 = true) (h3 : withinB n1 n2 2097152 = true) : apprB c d a b (-n1) (-n2) = apprB a b c d n1 n2 := by
  have hp := permB_of h1 h2 h3
  have hp2 : permB c d a b (-n1) (-n2) = true := permB_of h2 h1 (by rw [within_negs]; exact h3)
  have hc : (c - a) * -n1 + (d - b) * -n2 = (a - c) * n1 + (b - d) * n2 := by grind
  rw [appr_iff hp, appr_iff hp2, hc]
theorem swapM_appr {m : Mt} {v : List V2} (h : PermM m v.length) (hv : v.all (nearB 1048576) = true) : apprM v (swapM m) = apprM v m := by
  unfold swapM
  split
  · rename_i hb
    have na := near_get hv h.a0 h.a1
    have nb := near_get hv hb h.b1
    have hb1 : ¬ m.b = -1 := by omega
    have ha1 : ¬ m.a = -1 := by have := h.a0; omega
    have e1 : surfM m v = v.getD m.b.toNat (0, 0) := by unfold surfM; rw [if_neg hb1]
    have e2 : surfM { m with a := m.b, b := m.a, n1 := -m.n1, n2 := -m.n2 } v = v.getD m.a.toNat (0, 0) := by unfold surfM; rw [if_neg ha1]
    unfold apprM
    rw [e1, e2]
    exact pair_appr na nb h.nn
  · rfl
theorem swapM_alone {m : Mt} {v : List V2} (h : PermM m v.length) (hv : v.all (nearB 1048576) = true) (k : Int) : aloneR (swapM m) v k = aloneR m v k := by
  unfold swapM
  split
  · rename_i hb
    have na := near_get hv h.a0 h.a1
    have nb := near_get hv hb h.b1
    have hb1 : ¬ m.b = -1 := by omega
    have ha1 : ¬ m.a = -1 := by have := h.a0; omega
    have hs := pair_swap (permB_of na nb h.nn) h.e
    have hab := h.ab
    unfold aloneR
    simp only
    rw [hs]
    by_cases h1 : k = m.a
    · rw [if_neg (fun x => hab (h1.symm.trans x.2)), if_pos ⟨ha1, h1⟩, if_pos ⟨hb1, h1⟩]
    · by_cases h2 : k = m.b
      · rw [if_pos ⟨ha1, h2⟩, if_neg (fun x => h1 x.2), if_pos ⟨hb1, h2⟩]
      · rw [if_neg (fun x => h2 x.2), if_neg (fun x => h1 x.2), if_neg h2, if_neg (fun x => h1 x.2), if_neg (fun x => h2 x.2), if_neg h1]
  · rfl
theorem swapM_balls (m : Mt) {n : Int} (h : PermM m n) (x : Int) : x ∈ (if (swapM m).b = -1 then [(swapM m).a] else [(swapM m).a, (swapM m).b]) ↔ x ∈ (if m.b = -1 then [m.a] else [m.a, m.b]) := by
  unfold swapM
  split
  · rename_i hb
    have hb1 : ¬ m.b = -1 := by omega
    have ha1 : ¬ m.a = -1 := by have := h.a0; omega
    simp only
    rw [if_neg hb1, if_neg ha1]
    simp only [List.mem_cons, List.not_mem_nil, or_false]
    exact Or.comm
  · exact Iff.rfl
def backM (l : List Mt) : List Mt := l.reverse.map swapM
theorem back_eff {l : List Mt} {v : List V2} (hp : ∀ m ∈ l, PermM m v.length) (hv : v.all (nearB 1048576) = true) : effL (backM l) v = backM (effL l v) := by
  unfold effL backM
  rw [List.filter_map, ← List.filter_reverse]
  congr 1
  refine List.filter_congr fun m hm => ?_
  exact swapM_appr (hp m (List.mem_reverse.1 hm)) hv
theorem mem_ballsL {l : List Mt} {x : Int} : x ∈ ballsL l ↔ ∃ m ∈ l, x ∈ (if m.b = -1 then [m.a] else [m.a, m.b]) := by
  unfold ballsL; rw [List.mem_flatMap]
theorem back_new {l : List Mt} {v : List V2} (hp : ∀ m ∈ l, PermM m v.length) (hv : v.all (nearB 1048576) = true) {k : Int} (h0 : 0 ≤ k) (h1 : k < v.length) : newV (backM l) v k = newV l v k := by
  have e : meanR ((backM l).map fun m => aloneR m v k) = meanR (l.map fun m => aloneR m v k) := by
    have h2 : (backM l).map (fun m => aloneR m v k) = (l.map fun m => aloneR m v k).reverse := by
      unfold backM
      rw [List.map_map, ← List.map_reverse]
      refine List.map_congr_left fun m hm => ?_
      exact swapM_alone (hp m (List.mem_reverse.1 hm)) hv k
    rw [h2]
    refine (meanR_perm (List.reverse_perm _).symm fun a ha => ?_).symm
    obtain ⟨m, hm, rfl⟩ := List.mem_map.1 ha
    exact (alone_ok (hp m hm) hv h0 h1).1.d
  unfold newV
  rw [e]
theorem putV_congr {l r : List Mt} {v : List V2} : ∀ {bs : List Int} {o : List V2}, (∀ b ∈ bs, newV l v b = newV r v b) → putV l v bs o = putV r v bs o
  | [], o, _ => rfl
  | b :: bs, o, h => by
    show putV l v bs (o.set b.toNat (newV l v b)) = putV r v bs (o.set b.toNat (newV r v b))
    rw [h b (by simp)]
    exact putV_congr fun x hx => h x (List.mem_cons_of_mem _ hx)
theorem chgV_congr {l r : List Mt} {v : List V2} {bs : List Int} (h : ∀ b ∈ bs, newV l v b = newV r v b) : chgV l v bs = chgV r v bs := by
  unfold chgV
  rw [Bool.eq_iff_iff, List.any_eq_true, List.any_eq_true]
  constructor
  · rintro ⟨b, hb, hx⟩; exact ⟨b, hb, by rw [← h b hb]; exact hx⟩
  · rintro ⟨b, hb, hx⟩; exact ⟨b, hb, by rw [h b hb]; exact hx⟩
theorem resR_ok {l : List Mt} {v : List V2} (h : (resR l v).2.2 = 0) : ¬ (16 < l.length ∨ 64 < v.length) ∧ v.all (nearB 1048576) = true ∧ (∀ m ∈ l, PermM m v.length) := by
  unfold resR at h
  split at h
  · simp at h
  · rename_i h1
    split at h
    · rename_i h2
      exact ⟨h1, h2.1, fun m hm => permM_iff.1 (List.all_eq_true.1 h2.2 m hm)⟩
    · simp at h
theorem resR_val {l : List Mt} {v : List V2} (h1 : ¬ (16 < l.length ∨ 64 < v.length)) (hv : v.all (nearB 1048576) = true) (hp : ∀ m ∈ l, PermM m v.length) : resR l v = (putV (effL l v) v (ballsE l v) v, chgV (effL l v) v (ballsE l v), 0) := by
  unfold resR
  rw [if_neg h1, if_pos ⟨hv, List.all_eq_true.2 fun m hm => permM_iff.2 (hp m hm)⟩]
/-- The order of the meetings and of the balls of a pair does not matter. -/
theorem res_back {l : List Mt} {v : List V2} (h : (resR l v).2.2 = 0) : resR (backM l) v = resR l v := by
  obtain ⟨h1, hv, hp⟩ := resR_ok h
  have hpb : ∀ m ∈ backM l, PermM m v.length := fun m hm => by
    obtain ⟨x, hx, rfl⟩ := List.mem_map.1 hm
    exact swapM_perm (hp x (List.mem_reverse.1 hx))
  have hlen : (backM l).length = l.length := by simp [backM]
  have hpe : ∀ m ∈ effL l v, PermM m v.length := fun m hm => hp m (List.mem_filter.1 hm).1
  have hbe : ballsE (backM l) v = ballsE l v := by
    unfold ballsE
    rw [back_eff hp hv]
    refine setI_congr fun x => ?_
    rw [mem_ballsL, mem_ballsL]
    constructor
    · rintro ⟨m, hm, hx⟩
      obtain ⟨y, hy, rfl⟩ := List.mem_map.1 hm
      have hy' := List.mem_reverse.1 hy
      exact ⟨y, hy', (swapM_balls y (hpe y hy') x).1 hx⟩
    · rintro ⟨m, hm, hx⟩
      exact ⟨swapM m, List.mem_map.2 ⟨m, List.mem_reverse.2 hm, rfl⟩, (swapM_balls m (hpe m hm) x).2 hx⟩
  have hnew : ∀ b ∈ ballsE l v, newV (backM (effL l v)) v b = newV (effL l v) v b := fun b hb => by
    obtain ⟨b0, b1, _⟩ := balls_in hp hb
    exact back_new hpe hv b0 b1
  rw [resR_val (by rw [hlen]; exact h1) hv hpb, resR_val h1 hv hp, hbe, back_eff hp hv, putV_congr hnew, chgV_congr hnew]
-- mirrors
def mirV (x : V2) : V2 := (-x.1, x.2)
def mirM (m : Mt) : Mt := { m with n1 := -m.n1, w1 := -m.w1, k1 := -m.k1 }
theorem mirM_perm {m : Mt} {n : Int} (h : PermM m n) : PermM (mirM m) n := by
  obtain ⟨a0, a1, b0, b1, ab, z, nn, w, k, e, g⟩ := h
  refine ⟨a0, a1, b0, b1, ab, ?_, by unfold mirM; simp only; rw [within_flip]; exact nn, by unfold mirM; simp only; rw [within_flip]; exact w, by unfold mirM; simp only; rw [within_flip]; exact k, e, g⟩
  rcases z with z | ⟨z1, z2, z3, z4⟩
  · exact .inl z
  · exact .inr ⟨by unfold mirM; simp only; omega, z2, by unfold mirM; simp only; omega, z4⟩
theorem flip_get (v : List V2) (k : Nat) : (v.map mirV).getD k (0, 0) = mirV (v.getD k (0, 0)) := by
  rw [List.getD_eq_getElem?_getD, List.getD_eq_getElem?_getD, List.getElem?_map]
  cases v[k]? <;> rfl
theorem flip_near {v : List V2} (h : v.all (nearB 1048576) = true) : (v.map mirV).all (nearB 1048576) = true := by
  rw [List.all_map]
  rw [List.all_eq_true] at *
  intro x hx
  have := h x hx
  unfold nearB at *
  show withinB (-x.1) x.2 _ = true
  rw [within_flip]
  exact this
theorem mirM_surf (m : Mt) (v : List V2) : surfM (mirM m) (v.map mirV) = mirV (surfM m v) := by
  unfold surfM mirM
  simp only
  split
  · rfl
  · exact flip_get v _
theorem surf_near {m : Mt} {v : List V2} (h : PermM m v.length) (hv : v.all (nearB 1048576) = true) : withinB (surfM m v).1 (surfM m v).2 1048576 = true := by
  unfold surfM
  split
  · exact h.w
  · rename_i hb
    exact near_get hv (by have := h.b0; omega) h.b1
theorem mirM_appr {m : Mt} {v : List V2} (h : PermM m v.length) (hv : v.all (nearB 1048576) = true) : apprM (v.map mirV) (mirM m) = apprM v m := by
  have na := near_get hv h.a0 h.a1
  have ns := surf_near h hv
  unfold apprM
  rw [mirM_surf]
  show apprB ((v.map mirV).getD m.a.toNat (0, 0)).1 ((v.map mirV).getD m.a.toNat (0, 0)).2 (mirV (surfM m v)).1 (mirV (surfM m v)).2 (-m.n1) m.n2 = _
  rw [flip_get]
  exact appr_flip (permB_of na ns h.nn)
theorem pair_flip {v1 v2 w1 w2 n1 n2 e : Int} (hp : permB v1 v2 w1 w2 n1 n2 = true) (he : sixB e = true) :
    pairR (-v1) v2 (-w1) w2 (-n1) n2 e = (negX (pairR v1 v2 w1 w2 n1 n2 e).1, negX (pairR v1 v2 w1 w2 n1 n2 e).2) := by
  have hf := appr_flip hp
  cases ha : apprB v1 v2 w1 w2 n1 n2
  · rw [pairR_off hp ha he, pairR_off (by rw [perm_flip]; exact hp) (by rw [hf]; exact ha) he]
    rfl
  · rw [pairR_on ha he, pairR_on (by rw [hf]; exact ha) he]
    have hm : -n1 * -n1 + n2 * n2 = n1 * n1 + n2 * n2 := by rw [Int.neg_mul_neg]
    have hc : (-v1 - -w1) * -n1 + (v2 - w2) * n2 = (v1 - w1) * n1 + (v2 - w2) * n2 := by grind
    rw [hm, hc]
    have key : ∀ z s : Int, pairX (-z) (-n1) (n1 * n1 + n2 * n2) ((v1 - w1) * n1 + (v2 - w2) * n2) e s = -pairX z n1 (n1 * n1 + n2 * n2) ((v1 - w1) * n1 + (v2 - w2) * n2) e s := fun z s => by unfold pairX; grind
    rw [key, key, lowR_neg, lowR_neg]
    rfl
theorem mirM_alone {m : Mt} {v : List V2} (h : PermM m v.length) (hv : v.all (nearB 1048576) = true) (k : Int) : aloneR (mirM m) (v.map mirV) k = negX (aloneR m v k) := by
  have na := near_get hv h.a0 h.a1
  unfold aloneR
  show (if ¬ m.b = -1 ∧ k = m.a then (pairR ((v.map mirV).getD m.a.toNat (0, 0)).1 ((v.map mirV).getD m.a.toNat (0, 0)).2 ((v.map mirV).getD m.b.toNat (0, 0)).1 ((v.map mirV).getD m.b.toNat (0, 0)).2 (-m.n1) m.n2 m.e).1
    else if ¬ m.b = -1 ∧ k = m.b then (pairR ((v.map mirV).getD m.a.toNat (0, 0)).1 ((v.map mirV).getD m.a.toNat (0, 0)).2 ((v.map mirV).getD m.b.toNat (0, 0)).1 ((v.map mirV).getD m.b.toNat (0, 0)).2 (-m.n1) m.n2 m.e).2
    else if k = m.a then kickS (statR ((v.map mirV).getD m.a.toNat (0, 0)).1 ((v.map mirV).getD m.a.toNat (0, 0)).2 (-m.w1) m.w2 (-m.n1) m.n2 m.e m.g) (-m.k1) m.k2
    else (((v.map mirV).getD k.toNat (0, 0)).1, ((v.map mirV).getD k.toNat (0, 0)).2, 1)) = _
  rw [flip_get, flip_get, flip_get]
  by_cases hb : m.b = -1
  · have g1 : ¬ (¬ m.b = -1 ∧ k = m.a) := fun x => x.1 hb
    have g2 : ¬ (¬ m.b = -1 ∧ k = m.b) := fun x => x.1 hb
    simp only [if_neg g1, if_neg g2]
    by_cases hk : k = m.a
    · simp only [if_pos hk]
      show kickS (statR (-(v.getD m.a.toNat (0, 0)).1) (v.getD m.a.toNat (0, 0)).2 (-m.w1) m.w2 (-m.n1) m.n2 m.e m.g) (-m.k1) m.k2 = _
      rw [stat_flip (permB_of na h.w h.nn) h.e h.g]
      unfold kickS negX
      simp only
      congr 1
      grind
    · simp only [if_neg hk]
      rfl
  · have nb := near_get hv (by have := h.b0; omega) h.b1
    have hf := pair_flip (permB_of na nb h.nn) h.e
    show (if ¬ m.b = -1 ∧ k = m.a then (pairR (-(v.getD m.a.toNat (0, 0)).1) (v.getD m.a.toNat (0, 0)).2 (-(v.getD m.b.toNat (0, 0)).1) (v.getD m.b.toNat (0, 0)).2 (-m.n1) m.n2 m.e).1
      else if ¬ m.b = -1 ∧ k = m.b then (pairR (-(v.getD m.a.toNat (0, 0)).1) (v.getD m.a.toNat (0, 0)).2 (-(v.getD m.b.toNat (0, 0)).1) (v.getD m.b.toNat (0, 0)).2 (-m.n1) m.n2 m.e).2
      else if k = m.a then _ else _) = _
    rw [hf]
    by_cases h1 : k = m.a
    · have g1 : ¬ m.b = -1 ∧ k = m.a := ⟨hb, h1⟩
      simp only [if_pos g1]
    · have g1 : ¬ (¬ m.b = -1 ∧ k = m.a) := fun x => h1 x.2
      by_cases h2 : k = m.b
      · have g2 : ¬ m.b = -1 ∧ k = m.b := ⟨hb, h2⟩
        simp only [if_neg g1, if_pos g2]
      · have g2 : ¬ (¬ m.b = -1 ∧ k = m.b) := fun x => h2 x.2
        simp only [if_neg g1, if_neg g2, if_neg h1]
        rfl
theorem mir_eff {l : List Mt} {v : List V2} (hp : ∀ m ∈ l, PermM m v.length) (hv : v.all (nearB 1048576) = true) : effL (l.map mirM) (v.map mirV) = (effL l v).map mirM := by
  unfold effL
  rw [List.filter_map]
  congr 1
  exact List.filter_congr fun m hm => mirM_appr (hp m hm) hv
theorem mir_new {l : List Mt} {v : List V2} (hp : ∀ m ∈ l, PermM m v.length) (hv : v.all (nearB 1048576) = true) (k : Int) : newV (l.map mirM) (v.map mirV) k = mirV (newV l v k) := by
  have e : (l.map mirM).map (fun m => aloneR m (v.map mirV) k) = (l.map fun m => aloneR m v k).map negX := by
    rw [List.map_map, List.map_map]
    exact List.map_congr_left fun m hm => mirM_alone (hp m hm) hv k
  unfold newV
  rw [e, meanR_neg, clampR_neg]
  rfl
theorem mir_put {l : List Mt} {v : List V2} (hp : ∀ m ∈ l, PermM m v.length) (hv : v.all (nearB 1048576) = true) : ∀ (bs : List Int) (o : List V2), putV (l.map mirM) (v.map mirV) bs (o.map mirV) = (putV l v bs o).map mirV
  | [], o => rfl
  | b :: bs, o => by
    show putV (l.map mirM) (v.map mirV) bs ((o.map mirV).set b.toNat (newV (l.map mirM) (v.map mirV) b)) = (putV l v bs (o.set b.toNat (newV l v b))).map mirV
    rw [mir_new hp hv, ← List.map_set]
    exact mir_put hp hv bs _
theorem mir_inj {x y : V2} : mirV x = mirV y ↔ x = y := by
  obtain ⟨a, b⟩ := x
  obtain ⟨c, d⟩ := y
  unfold mirV
  simp only [Prod.mk.injEq]
  omega
theorem mir_chg {l : List Mt} {v : List V2} (hp : ∀ m ∈ l, PermM m v.length) (hv : v.all (nearB 1048576) = true) (bs : List Int) : chgV (l.map mirM) (v.map mirV) bs = chgV l v bs := by
  unfold chgV
  congr 1
  funext b
  rw [mir_new hp hv, flip_get]
  simp only [mir_inj]
/-- Everything is mirrored. -/
theorem res_mir {l : List Mt} {v : List V2} (h : (resR l v).2.2 = 0) : resR (l.map mirM) (v.map mirV) = ((resR l v).1.map mirV, (resR l v).2.1, 0) := by
  obtain ⟨h1, hv, hp⟩ := resR_ok h
  have hpm : ∀ m ∈ l.map mirM, PermM m (v.map mirV).length := fun m hm => by
    obtain ⟨x, hx, rfl⟩ := List.mem_map.1 hm
    rw [List.length_map]
    exact mirM_perm (hp x hx)
  have hpe : ∀ m ∈ effL l v, PermM m v.length := fun m hm => hp m (List.mem_filter.1 hm).1
  have hbe : ballsE (l.map mirM) (v.map mirV) = ballsE l v := by
    unfold ballsE
    rw [mir_eff hp hv]
    refine setI_congr fun x => ?_
    rw [mem_ballsL, mem_ballsL]
    constructor
    · rintro ⟨m, hm, hx⟩
      obtain ⟨y, hy, rfl⟩ := List.mem_map.1 hm
      exact ⟨y, hy, hx⟩
    · rintro ⟨m, hm, hx⟩
      exact ⟨mirM m, List.mem_map.2 ⟨m, hm, rfl⟩, hx⟩
  rw [resR_val (by rw [List.length_map, List.length_map]; exact h1) (flip_near hv) hpm, resR_val h1 hv hp, hbe, mir_eff hp hv, mir_put hpe hv, mir_chg hpe hv]
end Go.Proofs.Ytgejdaincnclpaa
namespace Go.Proofs.Ytgejdaincnclpaa
open Go Go.RowKit
set_option linter.unusedVariables false
theorem flip16_any (x y : Int) (w : World) (hx : -4611686018427387904 ≤ x ∧ x ≤ 4611686018427387904) :
    Calls Try.prog 15 #[.agg #[.int .i64 x, .int .i64 y]] w fun e w' => e = .returned (.agg #[.int .i64 (-x), .int .i64 y]) ∧ Below w.heap.size w w' := by
  go_enter Try.func15, Try.ntmps15; (try simp only [List.append_eq, List.cons_append, List.nil_append])
  go_wp2_with fail
  refine bodyPost_ret (v := .agg #[.int .i64 (-x), .int .i64 y]) (by (try simp only [results, Try.results15]); (try go_simp)) rfl ⟨?_, ?_⟩
  · rfl
  · ((with_reducible (repeat (first | exact bR _ _ | refine bS ?_ ?_ _ | refine bA ?_ ?_ _ | refine bD ?_ | refine bT ?_ (by assumption) ?_ | refine bO (by assumption) ?_ ?_))) <;> (first | omega | (simp; done) | (simp <;> omega)))
set_option maxRecDepth 100000 in
set_option maxHeartbeats 4000000 in
theorem same_yes (l : List V2) (A B : Option Addr) (c d : Nat) (w : World) (hA : VAt w A l) (hB : VAt w B l) (hl : l.length ≤ 100000) :
    Calls Try.prog 16 #[.slice A l.length c, .slice B l.length d] w fun e w' => e = .returned (.bool true) ∧ Below w.heap.size w w' := by
  have HA := Lib.hid hA
  have HB := Lib.hid hB
  clear hA hB
  have hne : ((l.length : Int) != (l.length : Int)) = false := by simp
  go_enter Try.func16, Try.ntmps16; (try simp only [List.append_eq, List.cons_append, List.nil_append])
  go_wp2_with fail
  go_loopw [5] (fun t5 wr => ∃ k : Nat, k ≤ l.length ∧ t5 = .int .i64 k ∧ Hid (Below w.heap.size w wr)) (fun t5 _ => l.length - (intOf t5).toNat)
  case atStart => exact ⟨0, by omega, rfl, Lib.hid (Below.refl _ _)⟩
  case round =>
    obtain ⟨k, hk, rfl, HW⟩ := hrel
    have k1 : (0 : Int) ≤ (k : Int) := by omega
    by_cases hkl : k < l.length
    · have k2 : (k : Int) < (l.length : Int) := by omega
      obtain ⟨⟨x, y⟩, hx⟩ : ∃ x, l[k]? = some x := ⟨l[k], by simp⟩
      obtain ⟨g, o, rfl, hg, c0, c1⟩ := (HA.out.below HW.out (Nat.le_refl _)) k _ hx
      obtain ⟨g2, o2, rfl, hg2, d0, d1⟩ := (HB.out.below HW.out (Nat.le_refl _)) k _ hx
      simp only at c0 c1 d0 d1
      clear hx
      go_wp2_with fail
      -- own blocks: 
      refine wp_region_warm (Own wr.heap.size wr) (by kernel_rfl) (by kernel_rfl) (Own.refl (Nat.le_refl _)).drew ?_
      repeat (first | (refine wpWarm_step_off rfl (fun K hK => ?_); (go_simp; refine hK _ ?_; clear hK K)) | (apply wpWarm_step rfl; (focus (intro W' hS; have hcS := hS.cells.1; have hfS := hS.cells.2; go_simp; (first | done | exact rfl | exact ⟨rfl, hS⟩ | (go_simp; exact rfl)))); (intro K hK; go_simp; (try go_bits); refine hK _ ?_; clear hK K)) | (apply wpWarm_step_on rfl; (focus (intro W' hS; have hcS := hS.cells.1; have hfS := hS.cells.2; go_simp; (first | done | exact rfl | exact ⟨rfl, hS⟩ | (go_simp; exact rfl)))); (intro K hK; go_simp; (try go_bits); refine hK _ ?_; clear hK K)))
      (refine wpWarm_nil ?_; intro w4 hO; have hz_w4 := hO.1; have hb_w4 := hO.2; clear hO; skip)
      have HB4 := Lib.hid (HW.out.trans (hb_w4.mono HW.out.size))
      clear hb_w4 c0 c1 d0 d1
      go_wp2_with fail
      go_roundw
      case rel => exact ⟨k + 1, by omega, by go_num, HB4⟩
      case measure => simp [intOf]; omega
    · obtain rfl : k = l.length := by omega
      go_wp2_with fail
      go_ret
      exact ⟨rfl, HW.out⟩
theorem scale_neg {a b : Int} (h : withinB a b 2097152 = true) : scaleR a b (-1) = (-a, -b) := by
  obtain ⟨h1, h2, h3, h4⟩ := within_bd2 h
  unfold scaleR keptR
  rw [if_pos ⟨by simp only [smallB, decide_eq_true_eq]; omega, by omega⟩, if_pos (by simp only [smallB, decide_eq_true_eq]; omega)]
  simp only [Prod.mk.injEq]
  omega
theorem resR_err {l : List Mt} {v : List V2} (h : ¬ (resR l v).2.2 = 0) : (resR l v).1 = [] ∧ (resR l v).2.1 = false := by
  unfold resR at *
  split
  · exact ⟨rfl, rfl⟩
  · rename_i h1
    rw [if_neg h1] at h
    split
    · rename_i h2
      rw [if_pos h2] at h
      exact absurd rfl h
    · exact ⟨rfl, rfl⟩
theorem eff_perm {l r : List Mt} (p : l.Perm r) (v : List V2) : (effL l v).Perm (effL r v) := p.filter _
theorem new_perm {l r : List Mt} {v : List V2} (p : l.Perm r) (hp : ∀ m ∈ l, PermM m v.length) (hv : v.all (nearB 1048576) = true) {k : Int} (h0 : 0 ≤ k) (h1 : k < v.length) : newV r v k = newV l v k := by
  unfold newV
  rw [meanR_perm (p.map fun m => aloneR m v k) fun a ha => by
    obtain ⟨m, hm, rfl⟩ := List.mem_map.1 ha
    exact (alone_ok (hp m hm) hv h0 h1).1.d]
theorem res_perm {l r : List Mt} {v : List V2} (p : l.Perm r) (h : (resR l v).2.2 = 0) : resR r v = resR l v := by
  obtain ⟨h1, hv, hp⟩ := resR_ok h
  have hpr : ∀ m ∈ r, PermM m v.length := fun m hm => hp m (p.mem_iff.2 hm)
  have hpe : ∀ m ∈ effL l v, PermM m v.length := fun m hm => hp m (List.mem_filter.1 hm).1
  have hbe : ballsE r v = ballsE l v := by
    unfold ballsE
    refine setI_congr fun x => ?_
    rw [mem_ballsL, mem_ballsL]
    constructor
    · rintro ⟨m, hm, hx⟩; exact ⟨m, (eff_perm p v).mem_iff.2 hm, hx⟩
    · rintro ⟨m, hm, hx⟩; exact ⟨m, (eff_perm p v).mem_iff.1 hm, hx⟩
  have hnew : ∀ b ∈ ballsE l v, newV (effL r v) v b = newV (effL l v) v b := fun b hb => by
    obtain ⟨b0, b1, _⟩ := balls_in hp hb
    exact new_perm (eff_perm p v) hpe hv b0 b1
  rw [resR_val (by rw [← p.length_eq]; exact h1) hv hpr, resR_val h1 hv hp, hbe, putV_congr hnew, chgV_congr hnew]
theorem res_mirrev {l : List Mt} {v : List V2} (h : (resR l v).2.2 = 0) : resR (l.reverse.map mirM) (v.map mirV) = ((resR l v).1.map mirV, (resR l v).2.1, 0) := by
  have e := res_perm (List.reverse_perm l).symm h
  have h2 : (resR l.reverse v).2.2 = 0 := by rw [e]; exact h
  rw [res_mir h2, e]
theorem clamp_bd (x : Int) : -65536 ≤ clampR x ∧ clampR x ≤ 65536 := by unfold clampR; omega
theorem put_near {l : List Mt} {v : List V2} : ∀ (bs : List Int) (o : List V2), o.all (nearB 1048576) = true → (putV l v bs o).all (nearB 1048576) = true
  | [], o, h => h
  | b :: bs, o, h => by
    refine put_near bs _ ?_
    rw [List.all_eq_true] at *
    intro x hx
    rcases List.mem_or_eq_of_mem_set hx with h' | rfl
    · exact h x h'
    · have h1 := clamp_bd (meanR (l.map fun m => aloneR m v b)).1
      have h2 := clamp_bd (meanR (l.map fun m => aloneR m v b)).2
      unfold newV nearB
      simp only [withinB, decide_eq_true_eq]
      omega
theorem res_near {l : List Mt} {v : List V2} (h : (resR l v).2.2 = 0) : (resR l v).1.all (nearB 1048576) = true ∧ (resR l v).1.length = v.length := by
  obtain ⟨h1, hv, hp⟩ := resR_ok h
  rw [resR_val h1 hv hp]
  exact ⟨put_near _ _ hv, putV_len _ _ _ _⟩
theorem swapM_pos {m : Mt} (h : 0 ≤ m.b) : swapM m = ⟨m.b, m.a, -m.n1, -m.n2, m.w1, m.w2, m.k1, m.k2, m.e, m.g⟩ := by unfold swapM; rw [if_pos h]
theorem swapM_neg {m : Mt} (h : ¬ 0 ≤ m.b) : swapM m = m := by unfold swapM; rw [if_neg h]
theorem OwnM.kept {W W' : World} {base : Nat} {A : Option Addr} {c : Nat} {l : List Mt} {row : Option Nat} (h : OwnM W base A c l) (hg : W.grownBy W' row) (hne : Value.ownBlock (.slice A l.length c) = none ∨ Value.ownBlock (.slice A l.length c) ≠ row) : OwnM W' base A c l := World.ownsRow.kept h hg hne
/-- Two rows that lie in different blocks. -/
def Dj (a b : Value) : Prop := a.ownBlock = none ∨ a.ownBlock ≠ b.ownBlock
theorem Dj.symm {a b : Value} (h : Dj a b) : Dj b a := by
  unfold Dj at *
  rcases h with h | h
  · cases hb : b.ownBlock with
    | none => exact .inl rfl
    | some k => right; rw [h]; simp
  · exact .inr fun e => h e.symm
theorem Dj.turn {a b a' : Value} {n : Nat} (h : Dj a b) (ht : a'.ownBlock = a.ownBlock ∨ a'.ownBlock = some n) (hb : ∀ k, b.ownBlock = some k → k < n) : Dj a' b := by
  unfold Dj at *
  rcases ht with ht | ht
  · rw [ht]; exact h
  · rw [ht]
    exact .inr fun e => by have := hb n e.symm; omega
theorem ownw_snoc {w : World} {base : Nat} {v : Value} {l : List V2} {x : V2} (h : w.ownsRow base 32 2 v (l.length + 1) (flatV l ++ cellsOfV x)) : ∃ A c, v = .slice A (l ++ [x]).length c ∧ OwnW w base A c (l ++ [x]) := by
  obtain ⟨A, c, rfl⟩ := own_slice h
  exact ⟨A, c, by simp, by unfold OwnW; rw [List.length_append, flatV_snoc]; exact h⟩
theorem infV : (Try.prog.info? 32).map (fun i => (i.zero, i.size, i.bytes)) = some (some (.agg #[.int .i64 0, .int .i64 0]), 2, 16) := by kernel_rfl
theorem OwnW.nil (w : World) (base : Nat) : OwnW w base none 0 [] := World.ownsRow_nil _ _ _ _
theorem OwnW.fresh {w : World} {base : Nat} {A : Option Addr} {c : Nat} {l : List V2} (h : OwnW w base A c l) : ∀ k, Value.ownBlock (.slice A l.length c) = some k → base ≤ k := fun k hk => (World.ownsRow.lt h k hk).1
theorem cell2 {w : World} {g : Nat} {v0 v1 : Value} (c0 : w.cell? ⟨g, 0, none⟩ = some v0) (c1 : w.cell? ⟨g, 1, none⟩ = some v1) : ∀ j u, [v0, v1][j]? = some u → w.cell? ⟨g, j, none⟩ = some u := fun j u hj => by
  rcases j with _ | _ | j <;> simp at hj <;> (subst hj; assumption)
end Go.Proofs.Ytgejdaincnclpaa
namespace Go.Proofs.Ytgejdaincnclpaa
open Go Go.RowKit
set_option linter.unusedVariables false
set_option maxRecDepth 100000 in
set_option maxHeartbeats 40000000 in
theorem order_law (l : List Mt) (A : Option Addr) (c : Nat) (v : List V2) (B : Option Addr) (d : Nat) (w : World) (hM : MAt w A l) (hV : VAt w B v) :
    Calls Try.prog 5 #[.slice A l.length c, .slice B v.length d] w fun e w' => e = .returned (.bool true) ∧ Below w.heap.size w w' := by
  have HM := Lib.hid hM
  have HV := Lib.hid hV
  have ka := fun w => awake16_any w
  have KA := Lib.hid ka
  have kr := fun w' (h : Below w.heap.size w w') => resolve_any l A c v B d w' (HM.out.below h (Nat.le_refl _)) (HV.out.below h (Nat.le_refl _))
  have HC0 := Lib.hid (fun h : (resR l v).2.2 = 0 => And.intro (resR_ok h) (And.intro (res_back h) (And.intro (res_mirrev h) (res_near h))))
  have HCE := Lib.hid (fun h : ¬ (resR l v).2.2 = 0 => resR_err h)
  generalize resR l v = R at *
  obtain ⟨o1, ch, code⟩ := R
  simp only at HC0 HCE
  have KR := Lib.hid kr
  clear ka kr hM hV
  go_enter Try.func5, Try.ntmps5; (try simp only [List.append_eq, List.cons_append, List.nil_append])
  go_wp2_with fail
  -- own blocks: 
  (go_at_call 6; refine (KA.out _).mono ?_; rintro e w1 ⟨rfl, hb_w1⟩; have hz_w1 := hb_w1.size; (try simp at hz_w1); skip)
  have HB1 := Lib.hid (show Below w.heap.size w w1 by ((with_reducible (repeat (first | exact bR _ _ | refine bS ?_ ?_ _ | refine bA ?_ ?_ _ | refine bD ?_ | refine bT ?_ (by assumption) ?_ | refine bO (by assumption) ?_ ?_))) <;> (first | omega | (simp; done) | (simp <;> omega))))
  clear hb_w1
  go_wp2_with fail
  (go_at_call 10; refine (KR.out _ HB1.out).mono ?_; rintro e w2 ⟨hb_w2, O, qo, rfl, ho⟩; have hz_w2 := hb_w2.size; (try simp at hz_w2); skip)
  have HB2 := Lib.hid (HB1.out.trans (hb_w2.mono HB1.out.size))
  have HO2 := Lib.hid ho
  clear hb_w2 ho KR
  simp only
  by_cases hcd : code = 0
  case neg =>
    obtain ⟨e1, e2⟩ := HCE.out hcd
    subst e1 e2
    have hc1 : (code != 0) = true := by rw [bne_iff_ne]; exact hcd
    clear HC0 HCE
    go_wp2_with fail
    go_ret
    exact ⟨rfl, HB2.out⟩
  case pos =>
    subst hcd
    obtain ⟨⟨h1, hva, hpl⟩, hback, hmir, hnear, holen⟩ := HC0.out rfl
    have HBK := Lib.hid hback
    have HMI := Lib.hid hmir
    have HNE := Lib.hid hnear
    have HLN := Lib.hid holen
    have HPL := Lib.hid hpl
    have HVA := Lib.hid hva
    have l1 : l.length ≤ 16 := by omega
    have l2 : v.length ≤ 64 := by omega
    clear HC0 HCE hback hmir hnear hpl hva h1 holen
    go_wp2_with fail
    go_loopw [8, 9, 10] (fun t8 t9 t10 wr => ∃ (k : Nat) (z : Int) (E1 E2 : Option Addr) (q1 q2 : Nat), k ≤ l.length ∧ z = (l.length : Int) - 1 - (k : Int) ∧ t10 = .int .i64 z ∧ t8 = .slice E1 ((l.reverse.take k).map swapM).length q1 ∧ t9 = .slice E2 ((l.reverse.take k).map mirM).length q2 ∧
        Hid (OwnM wr w2.heap.size E1 q1 ((l.reverse.take k).map swapM) ∧ OwnM wr w2.heap.size E2 q2 ((l.reverse.take k).map mirM) ∧ Dj (.slice E1 ((l.reverse.take k).map swapM).length q1) (.slice E2 ((l.reverse.take k).map mirM).length q2) ∧ Below w2.heap.size w2 wr)) (fun _ _ t10 _ => (intOf t10 + 1).toNat)
    case atStart => exact ⟨0, (l.length : Int) - 1, none, none, 0, 0, by omega, by omega, rfl, rfl, rfl, Lib.hid ⟨OwnM.nil _ _, OwnM.nil _ _, .inl rfl, Below.refl _ _⟩⟩
    case round =>
      obtain ⟨k, z, E1, E2, q1, q2, hk, hz, rfl, rfl, rfl, HI⟩ := hrel
      obtain ⟨w3, rfl⟩ : ∃ z, z = wr := ⟨_, rfl⟩
      have HZ := Lib.hid hz
      have hzz : (0 ≤ z ∧ k < l.length) ∨ (z = -1 ∧ k = l.length) := by omega
      clear hz
      rcases hzz with ⟨z0, hkl⟩ | ⟨rfl, rfl⟩
      · have HB3 := Lib.hid (HB2.out.trans (HI.out.2.2.2.mono (by have := HB2.out.size; omega)))
        have zl : z < (l.length : Int) := by have := HZ.out; omega
        have hzk : z.toNat = l.length - 1 - k := by have := HZ.out; omega
        obtain ⟨m, hm⟩ : ∃ m, l[z.toNat]? = some m := ⟨l[z.toNat]'(by omega), by simp⟩
        have hrk : l.reverse[k]? = some m := by rw [List.getElem?_reverse (by omega), ← hzk]; exact hm
        obtain ⟨gm, om, rfl, hgm, m0, m1, m2, m3, m4, m5, m6, m7, m8, m9⟩ := (HM.out.below HB3.out (Nat.le_refl _)) z.toNat m hm
        have hP := HPL.out m (List.mem_of_getElem? hm)
        have HT1 := Lib.hid (show ((l.reverse.take (k + 1)).map swapM) = ((l.reverse.take k).map swapM) ++ [swapM m] from map_take_suc (f := swapM) hrk)
        have HT2 := Lib.hid (show ((l.reverse.take (k + 1)).map mirM) = ((l.reverse.take k).map mirM) ++ [mirM m] from map_take_suc (f := mirM) hrk)
        have hL1 : ((l.reverse.take k).map swapM).length ≤ 16 := by rw [List.length_map, List.length_take]; omega
        have hL2 : ((l.reverse.take k).map mirM).length ≤ 16 := by rw [List.length_map, List.length_take]; omega
        generalize ((l.reverse.take k).map swapM) = L1 at *
        generalize ((l.reverse.take k).map mirM) = L2 at *
        have hnn := within_bd2 hP.nn
        have hww := within_bd2 hP.w
        have hkk := within_bd2 hP.k
        have ksc := fun w => vscale_any m.n1 m.n2 (-1) w
        rw [scale_neg hP.nn] at ksc
        have kf1 := fun w => flip16_any m.n1 m.n2 w (by omega)
        have kf2 := fun w => flip16_any m.w1 m.w2 w (by omega)
        have kf3 := fun w => flip16_any m.k1 m.k2 w (by omega)
        have KSC := Lib.hid ksc
        have KF1 := Lib.hid kf1
        have KF2 := Lib.hid kf2
        have KF3 := Lib.hid kf3
        have hsp : 0 ≤ m.b → swapM m = ⟨m.b, m.a, -m.n1, -m.n2, m.w1, m.w2, m.k1, m.k2, m.e, m.g⟩ := swapM_pos
        have hsn : ¬ 0 ≤ m.b → swapM m = m := swapM_neg
        have hmm : mirM m = ⟨m.a, m.b, -m.n1, m.n2, -m.w1, m.w2, -m.k1, m.k2, m.e, m.g⟩ := rfl
        have HMZ := Lib.hid hm
        generalize swapM m = sm at *
        generalize mirM m = mm at *
        obtain ⟨ma, mb, n1, n2, x1, x2, y1, y2, e, f⟩ := m
        simp only at *
        have hz3 : w2.heap.size ≤ w3.heap.size := HI.out.2.2.2.size
        clear hm hrk ksc kf1 kf2 kf3 hP hzk hnn hww hkk
        by_cases hmb : 0 ≤ mb
        · have hsm := hsp hmb
          subst hsm hmm
          clear hsp hsn
          go_wp2_with fail
          -- own blocks: w3.heap.size:10
          (refine pin_wp (N := _) (Nat.le_refl _) (fun w4 hb_w4 hz_w4 => ?_); (try simp at hz_w4); (with_reducible apply cel10 (b := w3.heap.size) hb_w4); (focus ((try simp) <;> omega)); (focus omega); (focus (go_simp; try exact rfl)); (focus (go_simp; try exact rfl)); (focus (go_simp; try exact rfl)); (focus (go_simp; try exact rfl)); (focus (go_simp; try exact rfl)); (focus (go_simp; try exact rfl)); (focus (go_simp; try exact rfl)); (focus (go_simp; try exact rfl)); (focus (go_simp; try exact rfl)); (focus (go_simp; try exact rfl)); (focus (intro o; go_simp)); intro cc cc cc cc cc cc cc cc cc cc fz hl); refine wp_region_floatQ w4.heap.size 8 [8, 9, 10, 11, 12] (Nat.le_refl _) (fun _ => True) trivial Cl.tt (by kernel_rfl) (by kernel_rfl) ?_
          refine wpQI_start [0, 1, 2, 3, 4, 5] ?_; (iterate 6 (first | (refine wpQI_off (by with_reducible (refine List.getElem?_toArray.trans ?_; (repeat (first | exact List.getElem?_cons_zero | refine List.getElem?_cons_succ.trans ?_)))) (by kernel_rfl) (by exact rfl) (fun K hK => ?_); go_simp; refine hK _ ?_; clear hK K) | ((first | apply wpQI_step (by with_reducible (refine List.getElem?_toArray.trans ?_; (repeat (first | exact List.getElem?_cons_zero | refine List.getElem?_cons_succ.trans ?_)))) (by kernel_rfl) (by exact rfl) | apply wpQI_on (by with_reducible (refine List.getElem?_toArray.trans ?_; (repeat (first | exact List.getElem?_cons_zero | refine List.getElem?_cons_succ.trans ?_)))) (by kernel_rfl) (by exact rfl)); (focus (intro W' hS; have hcS := hS.cells.1; have hfS := hS.cells.2; go_simp; (first | done | exact rfl | exact ⟨rfl, Below.refl _ _⟩ | (go_simp; first | done | exact rfl | exact ⟨rfl, Below.refl _ _⟩)))); intro K hK; go_simp; (try go_bits); refine hK _ ?_; clear hK K))); refine wpQI_nil ?_
          refine wpQI_start [6] ?_; (iterate 1 (first | (refine wpQI_off (by with_reducible (refine List.getElem?_toArray.trans ?_; (repeat (first | exact List.getElem?_cons_zero | refine List.getElem?_cons_succ.trans ?_)))) (by kernel_rfl) (by exact rfl) (fun K hK => ?_); go_simp; refine hK _ ?_; clear hK K) | ((first | apply wpQI_step (by with_reducible (refine List.getElem?_toArray.trans ?_; (repeat (first | exact List.getElem?_cons_zero | refine List.getElem?_cons_succ.trans ?_)))) (by kernel_rfl) (by exact rfl) | apply wpQI_on (by with_reducible (refine List.getElem?_toArray.trans ?_; (repeat (first | exact List.getElem?_cons_zero | refine List.getElem?_cons_succ.trans ?_)))) (by kernel_rfl) (by exact rfl)); (focus (intro W' hS; have hcS := hS.cells.1; have hfS := hS.cells.2; go_simp; (first | done | exact rfl | exact ⟨rfl, Below.refl _ _⟩ | (go_at_call 14; exact (KSC.out _).mono (fun _ _ h => ⟨h.1, h.2⟩)) | (go_simp; first | done | exact rfl | exact ⟨rfl, Below.refl _ _⟩)))); intro K hK; go_simp; (try go_bits); refine hK _ ?_; clear hK K))); refine wpQI_nil ?_
          refine wpQI_start [7] ?_; (iterate 1 (first | (refine wpQI_off (by with_reducible (refine List.getElem?_toArray.trans ?_; (repeat (first | exact List.getElem?_cons_zero | refine List.getElem?_cons_succ.trans ?_)))) (by kernel_rfl) (by exact rfl) (fun K hK => ?_); go_simp; refine hK _ ?_; clear hK K) | ((first | apply wpQI_step (by with_reducible (refine List.getElem?_toArray.trans ?_; (repeat (first | exact List.getElem?_cons_zero | refine List.getElem?_cons_succ.trans ?_)))) (by kernel_rfl) (by exact rfl) | apply wpQI_on (by with_reducible (refine List.getElem?_toArray.trans ?_; (repeat (first | exact List.getElem?_cons_zero | refine List.getElem?_cons_succ.trans ?_)))) (by kernel_rfl) (by exact rfl)); (focus (intro W' hS; have hcS := hS.cells.1; have hfS := hS.cells.2; go_simp; (first | done | exact rfl | exact ⟨rfl, Below.refl _ _⟩ | (go_simp; first | done | exact rfl | exact ⟨rfl, Below.refl _ _⟩)))); intro K hK; go_simp; (try go_bits); refine hK _ ?_; clear hK K))); refine wpQI_nil ?_
          refine wpQ_done (by kernel_rfl) ?_
          intro w5 hF_w5 hSG
          have hz_w5 := hSG.1.1
          have hb_w5 := hSG.1.2
          clear hSG
          (with_reducible apply cel10 (b := w3.heap.size) hb_w5); (focus ((try simp) <;> omega)); (focus omega); (focus (go_simp; try exact rfl)); (focus (go_simp; try exact rfl)); (focus (go_simp; try exact rfl)); (focus (go_simp; try exact rfl)); (focus (go_simp; try exact rfl)); (focus (go_simp; try exact rfl)); (focus (go_simp; try exact rfl)); (focus (go_simp; try exact rfl)); (focus (go_simp; try exact rfl)); (focus (go_simp; try exact rfl)); (focus (intro o; go_simp)); intro cc cc cc cc cc cc cc cc cc cc fz hl
          (try simp only [List.filterMap_cons, List.filterMap_nil, List.getElem?_cons_succ, List.getElem?_cons_zero])
          have HB5 := Lib.hid (show Below w3.heap.size w3 w5 by ((with_reducible (repeat (first | exact bR _ _ | refine bS ?_ ?_ _ | refine bA ?_ ?_ _ | refine bD ?_ | refine bT ?_ (by assumption) ?_ | refine bO (by assumption) ?_ ?_))) <;> (first | omega | (simp; done) | (simp <;> omega))))
          clear hb_w4 hb_w5
          go_wp2_with (at_builtin; go_must (refine wpList_append_one rfl _ _ 29 34 _ 10 80 rfl Try.underlying29 infM rfl (by decide) (by decide) w2.heap.size _ L1.length (flatM L1) (Mt.cells ⟨mb, ma, -n1, -n2, x1, x2, y1, y2, e, f⟩) rfl (OwnM.bel HI.out.1 (show Below w3.heap.size w3 _ by have hB := HB5.out; have hB2 := hB.size; ((with_reducible (repeat (first | exact bR _ _ | refine bS ?_ ?_ _ | refine bA ?_ ?_ _ | refine bD ?_ | refine bT ?_ (by assumption) ?_ | refine bO (by assumption) ?_ ?_))) <;> (first | omega | (simp; done) | (simp <;> omega)))) (Nat.le_refl _)) _ 1 rfl rfl (cell10 (m := ⟨mb, ma, -n1, -n2, x1, x2, y1, y2, e, f⟩) (by go_simp) (by go_simp) (by go_simp) (by go_simp) (by go_simp) (by go_simp) (by go_simp) (by go_simp) (by go_simp) (by go_simp)) one10 (by omega) (by simp; omega) ?_))
          intro v1' w6 hown6 hg6 ht6
          obtain ⟨P, hPP⟩ : ∃ P : World, Below w3.heap.size w3 P ∧ P.grownBy w6 (Value.ownBlock (.slice E1 L1.length q1)) ∧ (v1'.ownBlock = (Value.slice E1 L1.length q1).ownBlock ∨ v1'.ownBlock = some P.heap.size) := ⟨_, (by have hB := HB5.out; have hB2 := hB.size; ((with_reducible (repeat (first | exact bR _ _ | refine bS ?_ ?_ _ | refine bA ?_ ?_ _ | refine bD ?_ | refine bT ?_ (by assumption) ?_ | refine bO (by assumption) ?_ ?_))) <;> (first | omega | (simp; done) | (simp <;> omega)))), hg6, (by simpa using ht6)⟩
          obtain ⟨hBP, hgP, htP⟩ := hPP
          clear hg6 ht6
          obtain ⟨E6, q6, rfl, ho6⟩ := ownm_snoc hown6
          have hI2P := HI.out.2.1.bel hBP (Nat.le_refl _)
          have hI2 := hI2P.kept hgP HI.out.2.2.1.symm
          have hDj : Dj (.slice E6 (L1 ++ [(⟨mb, ma, -n1, -n2, x1, x2, y1, y2, e, f⟩ : Mt)]).length q6) (.slice E2 L2.length q2) := HI.out.2.2.1.turn htP (fun k hk => (World.ownsRow.lt hI2P k hk).2)
          have HO6 := Lib.hid ho6
          have HI2 := Lib.hid hI2
          have HDJ := Lib.hid hDj
          have HB6 := Lib.hid ((HI.out.2.2.2.trans (hBP.mono hz3)).grown hgP (by have := hBP.size; omega) (HI.out.1.fresh))
          have HBW6 := Lib.hid (HB2.out.trans (HB6.out.mono (by have := HB2.out.size; omega)))
          have hz6 : w2.heap.size ≤ w6.heap.size := HB6.out.size
          clear hown6 ho6 hI2P hI2 hDj hBP hgP htP m0 m1 m2 m3 m4 m5 m6 m7 m8 m9
          obtain ⟨gm', om', e0, hgm6, m0, m1, m2, m3, m4, m5, m6, m7, m8, m9⟩ := (HM.out.below HBW6.out (Nat.le_refl _)) z.toNat _ HMZ.out
          obtain ⟨rfl, rfl⟩ : gm = gm' ∧ om = om' := by simpa using e0
          simp only at m0 m1 m2 m3 m4 m5 m6 m7 m8 m9
          clear e0
          go_wp2_with fail
          -- own blocks: w6.heap.size:10
          (refine pin_wp (N := _) (Nat.le_refl _) (fun w7 hb_w7 hz_w7 => ?_); (try simp at hz_w7); (with_reducible apply cel10 (b := w6.heap.size) hb_w7); (focus ((try simp) <;> omega)); (focus omega); (focus (go_simp; try exact rfl)); (focus (go_simp; try exact rfl)); (focus (go_simp; try exact rfl)); (focus (go_simp; try exact rfl)); (focus (go_simp; try exact rfl)); (focus (go_simp; try exact rfl)); (focus (go_simp; try exact rfl)); (focus (go_simp; try exact rfl)); (focus (go_simp; try exact rfl)); (focus (go_simp; try exact rfl)); (focus (intro o; go_simp)); intro cc cc cc cc cc cc cc cc cc cc fz hl); refine wp_region_floatQ w7.heap.size 10 [10, 11, 12, 13, 14] (Nat.le_refl _) (fun _ => True) trivial Cl.tt (by kernel_rfl) (by kernel_rfl) ?_
          refine wpQI_start [0, 1] ?_; (iterate 2 (first | (refine wpQI_off (by with_reducible (refine List.getElem?_toArray.trans ?_; (repeat (first | exact List.getElem?_cons_zero | refine List.getElem?_cons_succ.trans ?_)))) (by kernel_rfl) (by exact rfl) (fun K hK => ?_); go_simp; refine hK _ ?_; clear hK K) | ((first | apply wpQI_step (by with_reducible (refine List.getElem?_toArray.trans ?_; (repeat (first | exact List.getElem?_cons_zero | refine List.getElem?_cons_succ.trans ?_)))) (by kernel_rfl) (by exact rfl) | apply wpQI_on (by with_reducible (refine List.getElem?_toArray.trans ?_; (repeat (first | exact List.getElem?_cons_zero | refine List.getElem?_cons_succ.trans ?_)))) (by kernel_rfl) (by exact rfl)); (focus (intro W' hS; have hcS := hS.cells.1; have hfS := hS.cells.2; go_simp; (first | done | exact rfl | exact ⟨rfl, Below.refl _ _⟩ | (go_simp; first | done | exact rfl | exact ⟨rfl, Below.refl _ _⟩)))); intro K hK; go_simp; (try go_bits); refine hK _ ?_; clear hK K))); refine wpQI_nil ?_
          refine wpQI_start [3, 4] ?_; (iterate 2 (first | (refine wpQI_off (by with_reducible (refine List.getElem?_toArray.trans ?_; (repeat (first | exact List.getElem?_cons_zero | refine List.getElem?_cons_succ.trans ?_)))) (by kernel_rfl) (by exact rfl) (fun K hK => ?_); go_simp; refine hK _ ?_; clear hK K) | ((first | apply wpQI_step (by with_reducible (refine List.getElem?_toArray.trans ?_; (repeat (first | exact List.getElem?_cons_zero | refine List.getElem?_cons_succ.trans ?_)))) (by kernel_rfl) (by exact rfl) | apply wpQI_on (by with_reducible (refine List.getElem?_toArray.trans ?_; (repeat (first | exact List.getElem?_cons_zero | refine List.getElem?_cons_succ.trans ?_)))) (by kernel_rfl) (by exact rfl)); (focus (intro W' hS; have hcS := hS.cells.1; have hfS := hS.cells.2; go_simp; (first | done | exact rfl | exact ⟨rfl, Below.refl _ _⟩ | (go_simp; first | done | exact rfl | exact ⟨rfl, Below.refl _ _⟩)))); intro K hK; go_simp; (try go_bits); refine hK _ ?_; clear hK K))); refine wpQI_nil ?_
          refine wpQI_start [6, 7] ?_; (iterate 2 (first | (refine wpQI_off (by with_reducible (refine List.getElem?_toArray.trans ?_; (repeat (first | exact List.getElem?_cons_zero | refine List.getElem?_cons_succ.trans ?_)))) (by kernel_rfl) (by exact rfl) (fun K hK => ?_); go_simp; refine hK _ ?_; clear hK K) | ((first | apply wpQI_step (by with_reducible (refine List.getElem?_toArray.trans ?_; (repeat (first | exact List.getElem?_cons_zero | refine List.getElem?_cons_succ.trans ?_)))) (by kernel_rfl) (by exact rfl) | apply wpQI_on (by with_reducible (refine List.getElem?_toArray.trans ?_; (repeat (first | exact List.getElem?_cons_zero | refine List.getElem?_cons_succ.trans ?_)))) (by kernel_rfl) (by exact rfl)); (focus (intro W' hS; have hcS := hS.cells.1; have hfS := hS.cells.2; go_simp; (first | done | exact rfl | exact ⟨rfl, Below.refl _ _⟩ | (go_simp; first | done | exact rfl | exact ⟨rfl, Below.refl _ _⟩)))); intro K hK; go_simp; (try go_bits); refine hK _ ?_; clear hK K))); refine wpQI_nil ?_
          refine wpQI_start [2] ?_; (iterate 1 (first | (refine wpQI_off (by with_reducible (refine List.getElem?_toArray.trans ?_; (repeat (first | exact List.getElem?_cons_zero | refine List.getElem?_cons_succ.trans ?_)))) (by kernel_rfl) (by exact rfl) (fun K hK => ?_); go_simp; refine hK _ ?_; clear hK K) | ((first | apply wpQI_step (by with_reducible (refine List.getElem?_toArray.trans ?_; (repeat (first | exact List.getElem?_cons_zero | refine List.getElem?_cons_succ.trans ?_)))) (by kernel_rfl) (by exact rfl) | apply wpQI_on (by with_reducible (refine List.getElem?_toArray.trans ?_; (repeat (first | exact List.getElem?_cons_zero | refine List.getElem?_cons_succ.trans ?_)))) (by kernel_rfl) (by exact rfl)); (focus (intro W' hS; have hcS := hS.cells.1; have hfS := hS.cells.2; go_simp; (first | done | exact rfl | exact ⟨rfl, Below.refl _ _⟩ | (go_at_call 15; exact (KF1.out _).mono (fun _ _ h => ⟨h.1, h.2⟩)) | (go_simp; first | done | exact rfl | exact ⟨rfl, Below.refl _ _⟩)))); intro K hK; go_simp; (try go_bits); refine hK _ ?_; clear hK K))); refine wpQI_nil ?_
          refine wpQI_start [5] ?_; (iterate 1 (first | (refine wpQI_off (by with_reducible (refine List.getElem?_toArray.trans ?_; (repeat (first | exact List.getElem?_cons_zero | refine List.getElem?_cons_succ.trans ?_)))) (by kernel_rfl) (by exact rfl) (fun K hK => ?_); go_simp; refine hK _ ?_; clear hK K) | ((first | apply wpQI_step (by with_reducible (refine List.getElem?_toArray.trans ?_; (repeat (first | exact List.getElem?_cons_zero | refine List.getElem?_cons_succ.trans ?_)))) (by kernel_rfl) (by exact rfl) | apply wpQI_on (by with_reducible (refine List.getElem?_toArray.trans ?_; (repeat (first | exact List.getElem?_cons_zero | refine List.getElem?_cons_succ.trans ?_)))) (by kernel_rfl) (by exact rfl)); (focus (intro W' hS; have hcS := hS.cells.1; have hfS := hS.cells.2; go_simp; (first | done | exact rfl | exact ⟨rfl, Below.refl _ _⟩ | (go_at_call 15; exact (KF2.out _).mono (fun _ _ h => ⟨h.1, h.2⟩)) | (go_simp; first | done | exact rfl | exact ⟨rfl, Below.refl _ _⟩)))); intro K hK; go_simp; (try go_bits); refine hK _ ?_; clear hK K))); refine wpQI_nil ?_
          refine wpQI_start [8] ?_; (iterate 1 (first | (refine wpQI_off (by with_reducible (refine List.getElem?_toArray.trans ?_; (repeat (first | exact List.getElem?_cons_zero | refine List.getElem?_cons_succ.trans ?_)))) (by kernel_rfl) (by exact rfl) (fun K hK => ?_); go_simp; refine hK _ ?_; clear hK K) | ((first | apply wpQI_step (by with_reducible (refine List.getElem?_toArray.trans ?_; (repeat (first | exact List.getElem?_cons_zero | refine List.getElem?_cons_succ.trans ?_)))) (by kernel_rfl) (by exact rfl) | apply wpQI_on (by with_reducible (refine List.getElem?_toArray.trans ?_; (repeat (first | exact List.getElem?_cons_zero | refine List.getElem?_cons_succ.trans ?_)))) (by kernel_rfl) (by exact rfl)); (focus (intro W' hS; have hcS := hS.cells.1; have hfS := hS.cells.2; go_simp; (first | done | exact rfl | exact ⟨rfl, Below.refl _ _⟩ | (go_at_call 15; exact (KF3.out _).mono (fun _ _ h => ⟨h.1, h.2⟩)) | (go_simp; first | done | exact rfl | exact ⟨rfl, Below.refl _ _⟩)))); intro K hK; go_simp; (try go_bits); refine hK _ ?_; clear hK K))); refine wpQI_nil ?_
          refine wpQI_start [9] ?_; (iterate 1 (first | (refine wpQI_off (by with_reducible (refine List.getElem?_toArray.trans ?_; (repeat (first | exact List.getElem?_cons_zero | refine List.getElem?_cons_succ.trans ?_)))) (by kernel_rfl) (by exact rfl) (fun K hK => ?_); go_simp; refine hK _ ?_; clear hK K) | ((first | apply wpQI_step (by with_reducible (refine List.getElem?_toArray.trans ?_; (repeat (first | exact List.getElem?_cons_zero | refine List.getElem?_cons_succ.trans ?_)))) (by kernel_rfl) (by exact rfl) | apply wpQI_on (by with_reducible (refine List.getElem?_toArray.trans ?_; (repeat (first | exact List.getElem?_cons_zero | refine List.getElem?_cons_succ.trans ?_)))) (by kernel_rfl) (by exact rfl)); (focus (intro W' hS; have hcS := hS.cells.1; have hfS := hS.cells.2; go_simp; (first | done | exact rfl | exact ⟨rfl, Below.refl _ _⟩ | (go_simp; first | done | exact rfl | exact ⟨rfl, Below.refl _ _⟩)))); intro K hK; go_simp; (try go_bits); refine hK _ ?_; clear hK K))); refine wpQI_nil ?_
          refine wpQ_done (by kernel_rfl) ?_
          intro w8 hF_w8 hSG
          have hz_w8 := hSG.1.1
          have hb_w8 := hSG.1.2
          clear hSG
          (with_reducible apply cel10 (b := w6.heap.size) hb_w8); (focus ((try simp) <;> omega)); (focus omega); (focus (go_simp; try exact rfl)); (focus (go_simp; try exact rfl)); (focus (go_simp; try exact rfl)); (focus (go_simp; try exact rfl)); (focus (go_simp; try exact rfl)); (focus (go_simp; try exact rfl)); (focus (go_simp; try exact rfl)); (focus (go_simp; try exact rfl)); (focus (go_simp; try exact rfl)); (focus (go_simp; try exact rfl)); (focus (intro o; go_simp)); intro cc cc cc cc cc cc cc cc cc cc fz hl
          (try simp only [List.filterMap_cons, List.filterMap_nil, List.getElem?_cons_succ, List.getElem?_cons_zero])
          have HB8 := Lib.hid (show Below w6.heap.size w6 w8 by ((with_reducible (repeat (first | exact bR _ _ | refine bS ?_ ?_ _ | refine bA ?_ ?_ _ | refine bD ?_ | refine bT ?_ (by assumption) ?_ | refine bO (by assumption) ?_ ?_))) <;> (first | omega | (simp; done) | (simp <;> omega))))
          clear hb_w7 hb_w8
          go_wp2_with (at_builtin; go_must (refine wpList_append_one rfl _ _ 29 34 _ 10 80 rfl Try.underlying29 infM rfl (by decide) (by decide) w2.heap.size _ L2.length (flatM L2) (Mt.cells ⟨ma, mb, -n1, n2, -x1, x2, -y1, y2, e, f⟩) rfl (OwnM.bel HI2.out (show Below w6.heap.size w6 _ by have hB := HB8.out; have hB2 := hB.size; ((with_reducible (repeat (first | exact bR _ _ | refine bS ?_ ?_ _ | refine bA ?_ ?_ _ | refine bD ?_ | refine bT ?_ (by assumption) ?_ | refine bO (by assumption) ?_ ?_))) <;> (first | omega | (simp; done) | (simp <;> omega)))) (Nat.le_refl _)) _ 1 rfl rfl (cell10 (m := ⟨ma, mb, -n1, n2, -x1, x2, -y1, y2, e, f⟩) (by go_simp) (by go_simp) (by go_simp) (by go_simp) (by go_simp) (by go_simp) (by go_simp) (by go_simp) (by go_simp) (by go_simp)) one10 (by omega) (by simp; omega) ?_))
          intro v2' w9 hown9 hg9 ht9
          obtain ⟨P, hPP⟩ : ∃ P : World, Below w6.heap.size w6 P ∧ P.grownBy w9 (Value.ownBlock (.slice E2 L2.length q2)) ∧ (v2'.ownBlock = (Value.slice E2 L2.length q2).ownBlock ∨ v2'.ownBlock = some P.heap.size) := ⟨_, (by have hB := HB8.out; have hB2 := hB.size; ((with_reducible (repeat (first | exact bR _ _ | refine bS ?_ ?_ _ | refine bA ?_ ?_ _ | refine bD ?_ | refine bT ?_ (by assumption) ?_ | refine bO (by assumption) ?_ ?_))) <;> (first | omega | (simp; done) | (simp <;> omega)))), hg9, (by simpa using ht9)⟩
          obtain ⟨hBP, hgP, htP⟩ := hPP
          clear hg9 ht9
          obtain ⟨E9, q9, rfl, ho9⟩ := ownm_snoc hown9
          have hO1P := HO6.out.bel hBP (Nat.le_refl _)
          have HO1 := Lib.hid (hO1P.kept hgP HDJ.out)
          have HDJ9 := Lib.hid (show Dj (.slice E6 (L1 ++ [(⟨mb, ma, -n1, -n2, x1, x2, y1, y2, e, f⟩ : Mt)]).length q6) (.slice E9 (L2 ++ [(⟨ma, mb, -n1, n2, -x1, x2, -y1, y2, e, f⟩ : Mt)]).length q9) from (HDJ.out.symm.turn htP (fun k hk => (World.ownsRow.lt hO1P k hk).2)).symm)
          have HO9 := Lib.hid ho9
          have HB9 := Lib.hid ((HB6.out.trans (hBP.mono hz6)).grown hgP (by have := hBP.size; omega) HI2.out.fresh)
          clear hown9 ho9 hO1P hBP hgP htP
          go_wp2_with fail
          go_roundw
          case rel => exact ⟨k + 1, z - 1, E6, E9, q6, q9, by omega, by have := HZ.out; omega, by go_num, by rw [HT1.out] <;> simp, by rw [HT2.out] <;> simp, Lib.hid ⟨by rw [HT1.out]; exact HO1.out, by rw [HT2.out]; exact HO9.out, by rw [HT1.out, HT2.out]; exact HDJ9.out, HB9.out⟩⟩
          case measure => simp [intOf]; omega
        · have hsm := hsn hmb
          subst hsm hmm
          clear hsp hsn
          have hmb2 : decide (mb ≥ 0) = false := decide_eq_false (by omega)
          go_wp2_with (at_builtin; go_must (refine wpList_append_one rfl _ _ 29 34 _ 10 80 rfl Try.underlying29 infM rfl (by decide) (by decide) w2.heap.size _ L1.length (flatM L1) (Mt.cells ⟨ma, mb, n1, n2, x1, x2, y1, y2, e, f⟩) rfl (OwnM.bel HI.out.1 (show Below w3.heap.size w3 _ by ((with_reducible (repeat (first | exact bR _ _ | refine bS ?_ ?_ _ | refine bA ?_ ?_ _ | refine bD ?_ | refine bT ?_ (by assumption) ?_ | refine bO (by assumption) ?_ ?_))) <;> (first | omega | (simp; done) | (simp <;> omega)))) (Nat.le_refl _)) _ 1 rfl rfl (cell10 (m := ⟨ma, mb, n1, n2, x1, x2, y1, y2, e, f⟩) (by go_simp) (by go_simp) (by go_simp) (by go_simp) (by go_simp) (by go_simp) (by go_simp) (by go_simp) (by go_simp) (by go_simp)) one10 (by omega) (by simp; omega) ?_))
          intro v1' w6 hown6 hg6 ht6
          obtain ⟨P, hPP⟩ : ∃ P : World, Below w3.heap.size w3 P ∧ P.grownBy w6 (Value.ownBlock (.slice E1 L1.length q1)) ∧ (v1'.ownBlock = (Value.slice E1 L1.length q1).ownBlock ∨ v1'.ownBlock = some P.heap.size) := ⟨_, (by ((with_reducible (repeat (first | exact bR _ _ | refine bS ?_ ?_ _ | refine bA ?_ ?_ _ | refine bD ?_ | refine bT ?_ (by assumption) ?_ | refine bO (by assumption) ?_ ?_))) <;> (first | omega | (simp; done) | (simp <;> omega)))), hg6, (by simpa using ht6)⟩
          obtain ⟨hBP, hgP, htP⟩ := hPP
          clear hg6 ht6
          obtain ⟨E6, q6, rfl, ho6⟩ := ownm_snoc hown6
          have hI2P := HI.out.2.1.bel hBP (Nat.le_refl _)
          have hI2 := hI2P.kept hgP HI.out.2.2.1.symm
          have hDj : Dj (.slice E6 (L1 ++ [(⟨ma, mb, n1, n2, x1, x2, y1, y2, e, f⟩ : Mt)]).length q6) (.slice E2 L2.length q2) := HI.out.2.2.1.turn htP (fun k hk => (World.ownsRow.lt hI2P k hk).2)
          have HO6 := Lib.hid ho6
          have HI2 := Lib.hid hI2
          have HDJ := Lib.hid hDj
          have HB6 := Lib.hid ((HI.out.2.2.2.trans (hBP.mono hz3)).grown hgP (by have := hBP.size; omega) (HI.out.1.fresh))
          have HBW6 := Lib.hid (HB2.out.trans (HB6.out.mono (by have := HB2.out.size; omega)))
          have hz6 : w2.heap.size ≤ w6.heap.size := HB6.out.size
          clear hown6 ho6 hI2P hI2 hDj hBP hgP htP m0 m1 m2 m3 m4 m5 m6 m7 m8 m9
          obtain ⟨gm', om', e0, hgm6, m0, m1, m2, m3, m4, m5, m6, m7, m8, m9⟩ := (HM.out.below HBW6.out (Nat.le_refl _)) z.toNat _ HMZ.out
          obtain ⟨rfl, rfl⟩ : gm = gm' ∧ om = om' := by simpa using e0
          simp only at m0 m1 m2 m3 m4 m5 m6 m7 m8 m9
          clear e0
          go_wp2_with fail
          -- own blocks: w6.heap.size:10
          (refine pin_wp (N := _) (Nat.le_refl _) (fun w7 hb_w7 hz_w7 => ?_); (try simp at hz_w7); (with_reducible apply cel10 (b := w6.heap.size) hb_w7); (focus ((try simp) <;> omega)); (focus omega); (focus (go_simp; try exact rfl)); (focus (go_simp; try exact rfl)); (focus (go_simp; try exact rfl)); (focus (go_simp; try exact rfl)); (focus (go_simp; try exact rfl)); (focus (go_simp; try exact rfl)); (focus (go_simp; try exact rfl)); (focus (go_simp; try exact rfl)); (focus (go_simp; try exact rfl)); (focus (go_simp; try exact rfl)); (focus (intro o; go_simp)); intro cc cc cc cc cc cc cc cc cc cc fz hl); refine wp_region_floatQ w7.heap.size 10 [10, 11, 12, 13, 14] (Nat.le_refl _) (fun _ => True) trivial Cl.tt (by kernel_rfl) (by kernel_rfl) ?_
          refine wpQI_start [0, 1] ?_; (iterate 2 (first | (refine wpQI_off (by with_reducible (refine List.getElem?_toArray.trans ?_; (repeat (first | exact List.getElem?_cons_zero | refine List.getElem?_cons_succ.trans ?_)))) (by kernel_rfl) (by exact rfl) (fun K hK => ?_); go_simp; refine hK _ ?_; clear hK K) | ((first | apply wpQI_step (by with_reducible (refine List.getElem?_toArray.trans ?_; (repeat (first | exact List.getElem?_cons_zero | refine List.getElem?_cons_succ.trans ?_)))) (by kernel_rfl) (by exact rfl) | apply wpQI_on (by with_reducible (refine List.getElem?_toArray.trans ?_; (repeat (first | exact List.getElem?_cons_zero | refine List.getElem?_cons_succ.trans ?_)))) (by kernel_rfl) (by exact rfl)); (focus (intro W' hS; have hcS := hS.cells.1; have hfS := hS.cells.2; go_simp; (first | done | exact rfl | exact ⟨rfl, Below.refl _ _⟩ | (go_simp; first | done | exact rfl | exact ⟨rfl, Below.refl _ _⟩)))); intro K hK; go_simp; (try go_bits); refine hK _ ?_; clear hK K))); refine wpQI_nil ?_
          refine wpQI_start [3, 4] ?_; (iterate 2 (first | (refine wpQI_off (by with_reducible (refine List.getElem?_toArray.trans ?_; (repeat (first | exact List.getElem?_cons_zero | refine List.getElem?_cons_succ.trans ?_)))) (by kernel_rfl) (by exact rfl) (fun K hK => ?_); go_simp; refine hK _ ?_; clear hK K) | ((first | apply wpQI_step (by with_reducible (refine List.getElem?_toArray.trans ?_; (repeat (first | exact List.getElem?_cons_zero | refine List.getElem?_cons_succ.trans ?_)))) (by kernel_rfl) (by exact rfl) | apply wpQI_on (by with_reducible (refine List.getElem?_toArray.trans ?_; (repeat (first | exact List.getElem?_cons_zero | refine List.getElem?_cons_succ.trans ?_)))) (by kernel_rfl) (by exact rfl)); (focus (intro W' hS; have hcS := hS.cells.1; have hfS := hS.cells.2; go_simp; (first | done | exact rfl | exact ⟨rfl, Below.refl _ _⟩ | (go_simp; first | done | exact rfl | exact ⟨rfl, Below.refl _ _⟩)))); intro K hK; go_simp; (try go_bits); refine hK _ ?_; clear hK K))); refine wpQI_nil ?_
          refine wpQI_start [6, 7] ?_; (iterate 2 (first | (refine wpQI_off (by with_reducible (refine List.getElem?_toArray.trans ?_; (repeat (first | exact List.getElem?_cons_zero | refine List.getElem?_cons_succ.trans ?_)))) (by kernel_rfl) (by exact rfl) (fun K hK => ?_); go_simp; refine hK _ ?_; clear hK K) | ((first | apply wpQI_step (by with_reducible (refine List.getElem?_toArray.trans ?_; (repeat (first | exact List.getElem?_cons_zero | refine List.getElem?_cons_succ.trans ?_)))) (by kernel_rfl) (by exact rfl) | apply wpQI_on (by with_reducible (refine List.getElem?_toArray.trans ?_; (repeat (first | exact List.getElem?_cons_zero | refine List.getElem?_cons_succ.trans ?_)))) (by kernel_rfl) (by exact rfl)); (focus (intro W' hS; have hcS := hS.cells.1; have hfS := hS.cells.2; go_simp; (first | done | exact rfl | exact ⟨rfl, Below.refl _ _⟩ | (go_simp; first | done | exact rfl | exact ⟨rfl, Below.refl _ _⟩)))); intro K hK; go_simp; (try go_bits); refine hK _ ?_; clear hK K))); refine wpQI_nil ?_
          refine wpQI_start [2] ?_; (iterate 1 (first | (refine wpQI_off (by with_reducible (refine List.getElem?_toArray.trans ?_; (repeat (first | exact List.getElem?_cons_zero | refine List.getElem?_cons_succ.trans ?_)))) (by kernel_rfl) (by exact rfl) (fun K hK => ?_); go_simp; refine hK _ ?_; clear hK K) | ((first | apply wpQI_step (by with_reducible (refine List.getElem?_toArray.trans ?_; (repeat (first | exact List.getElem?_cons_zero | refine List.getElem?_cons_succ.trans ?_)))) (by kernel_rfl) (by exact rfl) | apply wpQI_on (by with_reducible (refine List.getElem?_toArray.trans ?_; (repeat (first | exact List.getElem?_cons_zero | refine List.getElem?_cons_succ.trans ?_)))) (by kernel_rfl) (by exact rfl)); (focus (intro W' hS; have hcS := hS.cells.1; have hfS := hS.cells.2; go_simp; (first | done | exact rfl | exact ⟨rfl, Below.refl _ _⟩ | (go_at_call 15; exact (KF1.out _).mono (fun _ _ h => ⟨h.1, h.2⟩)) | (go_simp; first | done | exact rfl | exact ⟨rfl, Below.refl _ _⟩)))); intro K hK; go_simp; (try go_bits); refine hK _ ?_; clear hK K))); refine wpQI_nil ?_
          refine wpQI_start [5] ?_; (iterate 1 (first | (refine wpQI_off (by with_reducible (refine List.getElem?_toArray.trans ?_; (repeat (first | exact List.getElem?_cons_zero | refine List.getElem?_cons_succ.trans ?_)))) (by kernel_rfl) (by exact rfl) (fun K hK => ?_); go_simp; refine hK _ ?_; clear hK K) | ((first | apply wpQI_step (by with_reducible (refine List.getElem?_toArray.trans ?_; (repeat (first | exact List.getElem?_cons_zero | refine List.getElem?_cons_succ.trans ?_)))) (by kernel_rfl) (by exact rfl) | apply wpQI_on (by with_reducible (refine List.getElem?_toArray.trans ?_; (repeat (first | exact List.getElem?_cons_zero | refine List.getElem?_cons_succ.trans ?_)))) (by kernel_rfl) (by exact rfl)); (focus (intro W' hS; have hcS := hS.cells.1; have hfS := hS.cells.2; go_simp; (first | done | exact rfl | exact ⟨rfl, Below.refl _ _⟩ | (go_at_call 15; exact (KF2.out _).mono (fun _ _ h => ⟨h.1, h.2⟩)) | (go_simp; first | done | exact rfl | exact ⟨rfl, Below.refl _ _⟩)))); intro K hK; go_simp; (try go_bits); refine hK _ ?_; clear hK K))); refine wpQI_nil ?_
          refine wpQI_start [8] ?_; (iterate 1 (first | (refine wpQI_off (by with_reducible (refine List.getElem?_toArray.trans ?_; (repeat (first | exact List.getElem?_cons_zero | refine List.getElem?_cons_succ.trans ?_)))) (by kernel_rfl) (by exact rfl) (fun K hK => ?_); go_simp; refine hK _ ?_; clear hK K) | ((first | apply wpQI_step (by with_reducible (refine List.getElem?_toArray.trans ?_; (repeat (first | exact List.getElem?_cons_zero | refine List.getElem?_cons_succ.trans ?_)))) (by kernel_rfl) (by exact rfl) | apply wpQI_on (by with_reducible (refine List.getElem?_toArray.trans ?_; (repeat (first | exact List.getElem?_cons_zero | refine List.getElem?_cons_succ.trans ?_)))) (by kernel_rfl) (by exact rfl)); (focus (intro W' hS; have hcS := hS.cells.1; have hfS := hS.cells.2; go_simp; (first | done | exact rfl | exact ⟨rfl, Below.refl _ _⟩ | (go_at_call 15; exact (KF3.out _).mono (fun _ _ h => ⟨h.1, h.2⟩)) | (go_simp; first | done | exact rfl | exact ⟨rfl, Below.refl _ _⟩)))); intro K hK; go_simp; (try go_bits); refine hK _ ?_; clear hK K))); refine wpQI_nil ?_
          refine wpQI_start [9] ?_; (iterate 1 (first | (refine wpQI_off (by with_reducible (refine List.getElem?_toArray.trans ?_; (repeat (first | exact List.getElem?_cons_zero | refine List.getElem?_cons_succ.trans ?_)))) (by kernel_rfl) (by exact rfl) (fun K hK => ?_); go_simp; refine hK _ ?_; clear hK K) | ((first | apply wpQI_step (by with_reducible (refine List.getElem?_toArray.trans ?_; (repeat (first | exact List.getElem?_cons_zero | refine List.getElem?_cons_succ.trans ?_)))) (by kernel_rfl) (by exact rfl) | apply wpQI_on (by with_reducible (refine List.getElem?_toArray.trans ?_; (repeat (first | exact List.getElem?_cons_zero | refine List.getElem?_cons_succ.trans ?_)))) (by kernel_rfl) (by exact rfl)); (focus (intro W' hS; have hcS := hS.cells.1; have hfS := hS.cells.2; go_simp; (first | done | exact rfl | exact ⟨rfl, Below.refl _ _⟩ | (go_simp; first | done | exact rfl | exact ⟨rfl, Below.refl _ _⟩)))); intro K hK; go_simp; (try go_bits); refine hK _ ?_; clear hK K))); refine wpQI_nil ?_
          refine wpQ_done (by kernel_rfl) ?_
          intro w8 hF_w8 hSG
          have hz_w8 := hSG.1.1
          have hb_w8 := hSG.1.2
          clear hSG
          (with_reducible apply cel10 (b := w6.heap.size) hb_w8); (focus ((try simp) <;> omega)); (focus omega); (focus (go_simp; try exact rfl)); (focus (go_simp; try exact rfl)); (focus (go_simp; try exact rfl)); (focus (go_simp; try exact rfl)); (focus (go_simp; try exact rfl)); (focus (go_simp; try exact rfl)); (focus (go_simp; try exact rfl)); (focus (go_simp; try exact rfl)); (focus (go_simp; try exact rfl)); (focus (go_simp; try exact rfl)); (focus (intro o; go_simp)); intro cc cc cc cc cc cc cc cc cc cc fz hl
          (try simp only [List.filterMap_cons, List.filterMap_nil, List.getElem?_cons_succ, List.getElem?_cons_zero])
          have HB8 := Lib.hid (show Below w6.heap.size w6 w8 by ((with_reducible (repeat (first | exact bR _ _ | refine bS ?_ ?_ _ | refine bA ?_ ?_ _ | refine bD ?_ | refine bT ?_ (by assumption) ?_ | refine bO (by assumption) ?_ ?_))) <;> (first | omega | (simp; done) | (simp <;> omega))))
          clear hb_w7 hb_w8
          go_wp2_with (at_builtin; go_must (refine wpList_append_one rfl _ _ 29 34 _ 10 80 rfl Try.underlying29 infM rfl (by decide) (by decide) w2.heap.size _ L2.length (flatM L2) (Mt.cells ⟨ma, mb, -n1, n2, -x1, x2, -y1, y2, e, f⟩) rfl (OwnM.bel HI2.out (show Below w6.heap.size w6 _ by have hB := HB8.out; have hB2 := hB.size; ((with_reducible (repeat (first | exact bR _ _ | refine bS ?_ ?_ _ | refine bA ?_ ?_ _ | refine bD ?_ | refine bT ?_ (by assumption) ?_ | refine bO (by assumption) ?_ ?_))) <;> (first | omega | (simp; done) | (simp <;> omega)))) (Nat.le_refl _)) _ 1 rfl rfl (cell10 (m := ⟨ma, mb, -n1, n2, -x1, x2, -y1, y2, e, f⟩) (by go_simp) (by go_simp) (by go_simp) (by go_simp) (by go_simp) (by go_simp) (by go_simp) (by go_simp) (by go_simp) (by go_simp)) one10 (by omega) (by simp; omega) ?_))
          intro v2' w9 hown9 hg9 ht9
          obtain ⟨P, hPP⟩ : ∃ P : World, Below w6.heap.size w6 P ∧ P.grownBy w9 (Value.ownBlock (.slice E2 L2.length q2)) ∧ (v2'.ownBlock = (Value.slice E2 L2.length q2).ownBlock ∨ v2'.ownBlock = some P.heap.size) := ⟨_, (by have hB := HB8.out; have hB2 := hB.size; ((with_reducible (repeat (first | exact bR _ _ | refine bS ?_ ?_ _ | refine bA ?_ ?_ _ | refine bD ?_ | refine bT ?_ (by assumption) ?_ | refine bO (by assumption) ?_ ?_))) <;> (first | omega | (simp; done) | (simp <;> omega)))), hg9, (by simpa using ht9)⟩
          obtain ⟨hBP, hgP, htP⟩ := hPP
          clear hg9 ht9
          obtain ⟨E9, q9, rfl, ho9⟩ := ownm_snoc hown9
          have hO1P := HO6.out.bel hBP (Nat.le_refl _)
          have HO1 := Lib.hid (hO1P.kept hgP HDJ.out)
          have HDJ9 := Lib.hid (show Dj (.slice E6 (L1 ++ [(⟨ma, mb, n1, n2, x1, x2, y1, y2, e, f⟩ : Mt)]).length q6) (.slice E9 (L2 ++ [(⟨ma, mb, -n1, n2, -x1, x2, -y1, y2, e, f⟩ : Mt)]).length q9) from (HDJ.out.symm.turn htP (fun k hk => (World.ownsRow.lt hO1P k hk).2)).symm)
          have HO9 := Lib.hid ho9
          have HB9 := Lib.hid ((HB6.out.trans (hBP.mono hz6)).grown hgP (by have := hBP.size; omega) HI2.out.fresh)
          clear hown9 ho9 hO1P hBP hgP htP
          go_wp2_with fail
          go_roundw
          case rel => exact ⟨k + 1, z - 1, E6, E9, q6, q9, by omega, by have := HZ.out; omega, by go_num, by rw [HT1.out] <;> simp, by rw [HT2.out] <;> simp, Lib.hid ⟨by rw [HT1.out]; exact HO1.out, by rw [HT2.out]; exact HO9.out, by rw [HT1.out, HT2.out]; exact HDJ9.out, HB9.out⟩⟩
          case measure => simp [intOf]; omega
      · have hL : l.reverse.take l.length = l.reverse := by rw [← List.length_reverse, List.take_length]
        have HI' := HI.out
        rw [hL] at HI' ⊢
        have HE1 := Lib.hid (show MAt w3 E1 (backM l) from HI'.1.mat)
        have HE2 := Lib.hid HI'.2.1.mat
        have hb0 : (l.reverse.map swapM).length = (backM l).length := rfl
        have hbl : (backM l).length ≤ 16 := by simp [backM]; omega
        have hml : (l.reverse.map mirM).length ≤ 16 := by simp; omega
        have HB3 := Lib.hid (HB2.out.trans (HI'.2.2.2.mono (by have := HB2.out.size; omega)))
        rw [hb0]
        have HO3 := Lib.hid (HO2.out.below HI'.2.2.2 (Nat.le_refl _))
        clear HI HI' HO2 hb0
        generalize l.reverse.map mirM = MM at *
        generalize backM l = BM at *
        go_wp2_with fail
        go_loopw [13, 14] (fun t13 t14 wr => ∃ (k : Nat) (E : Option Addr) (q : Nat), k ≤ v.length ∧ t14 = .int .i64 k ∧ t13 = .slice E ((v.take k).map mirV).length q ∧ Hid (OwnW wr w3.heap.size E q ((v.take k).map mirV) ∧ Below w3.heap.size w3 wr)) (fun _ t14 _ => v.length - (intOf t14).toNat)
        case atStart => exact ⟨0, none, 0, by omega, rfl, rfl, Lib.hid ⟨OwnW.nil _ _, Below.refl _ _⟩⟩
        case round =>
          obtain ⟨k, E, q, hk, rfl, rfl, HJ⟩ := hrel
          obtain ⟨w4, rfl⟩ : ∃ z, z = wr := ⟨_, rfl⟩
          have k1 : (0 : Int) ≤ (k : Int) := by omega
          have hz4 : w3.heap.size ≤ w4.heap.size := HJ.out.2.size
          have HB4 := Lib.hid (HB3.out.trans (HJ.out.2.mono (by have := HB3.out.size; omega)))
          by_cases hkl : k < v.length
          · have k2 : (k : Int) < (v.length : Int) := by omega
            obtain ⟨⟨x, y⟩, hx⟩ : ∃ x, v[k]? = some x := ⟨v[k], by simp⟩
            obtain ⟨g, o, rfl, hg, c0, c1⟩ := (HV.out.below HB4.out (Nat.le_refl _)) k _ hx
            have hnx := within_bd2 (List.all_eq_true.1 HVA.out _ (List.mem_of_getElem? hx))
            have HT := Lib.hid (show (v.take (k + 1)).map mirV = (v.take k).map mirV ++ [(-x, y)] from map_take_suc (f := mirV) hx)
            have hL1 : ((v.take k).map mirV).length ≤ 64 := by rw [List.length_map, List.length_take]; omega
            simp only at c0 c1 hnx
            have kf := fun w => flip16_any x y w (by omega)
            have KF := Lib.hid kf
            generalize (v.take k).map mirV = L at *
            clear hx kf
            go_wp2_with fail
            -- own blocks: 
            (go_at_call 15; refine (KF.out _).mono ?_; rintro e w5 ⟨rfl, hb_w5⟩; have hz_w5 := hb_w5.size; (try simp at hz_w5); skip)
            have HB5 := Lib.hid hb_w5
            have hz5 := hb_w5.size
            clear hb_w5
            go_wp2_with (at_builtin; go_must (refine wpList_append_one rfl _ _ 30 32 _ 2 16 rfl Try.underlying30 infV rfl (by decide) (by decide) w3.heap.size _ L.length (flatV L) [.int .i64 (-x), .int .i64 y] rfl (OwnW.bel HJ.out.1 (show Below w4.heap.size w4 _ by have hB := HB5.out; ((with_reducible (repeat (first | exact bR _ _ | refine bS ?_ ?_ _ | refine bA ?_ ?_ _ | refine bD ?_ | refine bT ?_ (by assumption) ?_ | refine bO (by assumption) ?_ ?_))) <;> (first | omega | (simp; done) | (simp <;> omega)))) (Nat.le_refl _)) _ 1 rfl rfl (cell2 (by go_simp) (by go_simp)) (by simp [Value.oneCell']) (by omega) (by simp; omega) ?_))
            intro v1' w6 hown6 hg6 _
            obtain ⟨E6, q6, rfl, ho6⟩ := ownw_snoc (x := (-x, y)) hown6
            have HO6 := Lib.hid ho6
            have HB6 := Lib.hid ((show Below w3.heap.size w3 _ from (HJ.out.2.trans (HB5.out.mono hz4)).alloc (by omega) _).grown hg6 (by simp; omega) HJ.out.1.fresh)
            clear hg6 hown6 ho6
            go_wp2_with fail
            go_roundw
            case rel => exact ⟨k + 1, E6, q6, by omega, by go_num, by rw [HT.out], Lib.hid ⟨by rw [HT.out]; exact HO6.out, HB6.out⟩⟩
            case measure => simp [intOf]; omega
          · obtain rfl : k = v.length := by omega
            have HJ' := HJ.out
            rw [List.take_length] at HJ' ⊢
            have HVM := Lib.hid HJ'.1.vat
            have hvm : (v.map mirV).length ≤ 64 := by rw [List.length_map]; omega
            have kb := fun w' (h : Below w4.heap.size w4 w') => resolve_any BM E1 q1 v B d w' (HE1.out.below (HJ'.2.trans (h.mono hz4)) (Nat.le_refl _)) (HV.out.below (HB4.out.trans (h.mono (by have := HB4.out.size; omega))) (Nat.le_refl _))
            have km := fun w' (h : Below w4.heap.size w4 w') => resolve_any MM E2 q2 (v.map mirV) E q w' (HE2.out.below (HJ'.2.trans (h.mono hz4)) (Nat.le_refl _)) (HVM.out.below h (Nat.le_refl _))
            rw [HBK.out] at kb
            rw [HMI.out] at km
            have KB := Lib.hid kb
            have KM := Lib.hid km
            have HO4 := Lib.hid (HO3.out.below HJ'.2 (Nat.le_refl _))
            have hol : o1.length ≤ 64 := by have := HLN.out; omega
            have hcc : (ch != ch) = false := by simp
            have ksm := fun (A B : Option Addr) (c d : Nat) (w : World) h1 h2 => same_yes o1 A B c d w h1 h2 (by omega)
            have KSM := Lib.hid ksm
            clear kb km HJ HJ' HBK HMI ksm
            generalize v.map mirV = VM at *
            go_wp2_with fail
            -- own blocks: 
            (go_at_call 10; refine (KB.out _ (Below.refl _ _)).mono ?_; rintro e w5 ⟨hb_w5, O5, q5, rfl, ho5⟩; have hz_w5 := hb_w5.size; (try simp at hz_w5); skip)
            have HB5 := Lib.hid hb_w5
            have HO5 := Lib.hid (show VAt w5 O5 o1 from ho5)
            have HOa := Lib.hid (HO4.out.below hb_w5 (Nat.le_refl _))
            clear hb_w5 ho5 HO4
            simp only
            go_wp2_with fail
            (go_at_call 10; refine (KM.out _ HB5.out).mono ?_; rintro e w6 ⟨hb_w6, O6, q6, rfl, ho6⟩; have hz_w6 := hb_w6.size; (try simp at hz_w6); skip)
            have HB6 := Lib.hid (HB4.out.trans ((HB5.out.trans (hb_w6.mono HB5.out.size)).mono HB4.out.size))
            have HO6 := Lib.hid (show VAt w6 O6 (o1.map mirV) from ho6)
            have HOb := Lib.hid (HOa.out.below hb_w6 (Nat.le_refl _))
            have HOc := Lib.hid (HO5.out.below hb_w6 (Nat.le_refl _))
            clear hb_w6 ho6 HO5 HOa KB KM
            simp only [List.length_map]
            have hnl : ((o1.length : Int) != (o1.length : Int)) = false := by simp
            go_wp2_with fail
            (go_at_call 16; refine (KSM.out _ _ _ _ _ HOb.out HOc.out).mono ?_; rintro e w7 ⟨rfl, hb_w7⟩; have hz_w7 := hb_w7.size; (try simp at hz_w7); skip)
            have HB7 := Lib.hid (HB6.out.trans (hb_w7.mono HB6.out.size))
            have HOd := Lib.hid (HOb.out.below hb_w7 (Nat.le_refl _))
            have HOe := Lib.hid (HO6.out.below hb_w7 (Nat.le_refl _))
            clear hb_w7 HOb HOc HO6 KSM
            go_wp2_with fail
            go_loopw [21] (fun t21 wr => ∃ k : Nat, k ≤ o1.length ∧ t21 = .int .i64 k ∧ Hid (Below w7.heap.size w7 wr)) (fun t21 _ => o1.length - (intOf t21).toNat)
            case atStart => exact ⟨0, by omega, rfl, Lib.hid (Below.refl _ _)⟩
            case round =>
              obtain ⟨k, hk, rfl, HW⟩ := hrel
              obtain ⟨w8, rfl⟩ : ∃ z, z = wr := ⟨_, rfl⟩
              have k1 : (0 : Int) ≤ (k : Int) := by omega
              by_cases hkl : k < o1.length
              · have k2 : (k : Int) < (o1.length : Int) := by omega
                obtain ⟨⟨x, y⟩, hx⟩ : ∃ x, o1[k]? = some x := ⟨o1[k], by simp⟩
                obtain ⟨g, o, rfl, hg, c0, c1⟩ := (HOd.out.below HW.out (Nat.le_refl _)) k _ hx
                obtain ⟨g2, o2, rfl, hg2, d0, d1⟩ := (HOe.out.below HW.out (Nat.le_refl _)) k (-x, y) (by rw [List.getElem?_map, hx]; rfl)
                have hnx := within_bd2 (List.all_eq_true.1 HNE.out _ (List.mem_of_getElem? hx))
                simp only at c0 c1 d0 d1 hnx
                have kf := fun w => flip16_any x y w (by omega)
                have KF := Lib.hid kf
                clear hx kf
                go_wp2_with fail
                -- own blocks: 
                refine wp_region_warm (Own w8.heap.size w8) (by kernel_rfl) (by kernel_rfl) (Own.refl (Nat.le_refl _)).drew ?_
                repeat (first | (refine wpWarm_step_off rfl (fun K hK => ?_); (go_simp; refine hK _ ?_; clear hK K)) | (apply wpWarm_step rfl; (focus (intro W' hS; have hcS := hS.cells.1; have hfS := hS.cells.2; go_simp; (first | done | exact rfl | exact ⟨rfl, hS⟩ | (go_at_call 15; exact (KF.out _).mono (fun _ _ h => ⟨h.1, hS.call h.2⟩)) | (go_simp; exact rfl)))); (intro K hK; go_simp; (try go_bits); refine hK _ ?_; clear hK K)) | (apply wpWarm_step_on rfl; (focus (intro W' hS; have hcS := hS.cells.1; have hfS := hS.cells.2; go_simp; (first | done | exact rfl | exact ⟨rfl, hS⟩ | (go_at_call 15; exact (KF.out _).mono (fun _ _ h => ⟨h.1, hS.call h.2⟩)) | (go_simp; exact rfl)))); (intro K hK; go_simp; (try go_bits); refine hK _ ?_; clear hK K)))
                (refine wpWarm_nil ?_; intro w9 hO; have hz_w9 := hO.1; have hb_w9 := hO.2; clear hO; skip)
                have HB9 := Lib.hid (HW.out.trans (hb_w9.mono HW.out.size))
                clear hb_w9 c0 c1 d0 d1
                go_wp2_with fail
                go_roundw
                case rel => exact ⟨k + 1, by omega, by go_num, HB9⟩
                case measure => simp [intOf]; omega
              · obtain rfl : k = o1.length := by omega
                go_wp2_with fail
                go_ret
                exact ⟨rfl, HB7.out.trans (HW.out.mono HB7.out.size)⟩
end Go.Proofs.Ytgejdaincnclpaa
namespace Go.Proofs.Ytgejdaincnclpaa.lawCO
open Go.ChangeShapes Go.WideShapes Go.ChangeAt Go.RowKit
set_option linter.unusedVariables false
theorem walk (w : World) (a0 : Option Addr) (len0 cap0 n0 : Nat) (w0 : RowIs Try.prog w n0 29 [.slice a0 len0 cap0]) (a1 : Option Addr) (len1 cap1 n1 : Nat) (w1 : RowIs Try.prog w n1 30 [.slice a1 len1 cap1]) :
    Calls Try.prog 5 #[.slice a0 len0 cap0, .slice a1 len1 cap1] w fun e w' => e = .returned (.bool true) ∧ Below w.heap.size w w' := by
  obtain ⟨hm, l, rfl, hM, _⟩ := meetings_open w0
  obtain ⟨_, v, rfl, hV, _⟩ := vs_open w1
  exact order_law l a0 cap0 v a1 cap1 w hM hV
theorem own : ownKnob Try.prog.godebug = none := by kernel_rfl
theorem laidOut : laidOutB Try.prog = true := by kernel_rfl
set_option maxRecDepth 100000 in
theorem lifted (os : Os) (started : os.Started) (H : Type) (enc : TypeId × Value → H) :
    ReturnsInHanded {} Try.checked os 5 .any (Rows.clusterOrderSpec.pre6 enc Try.prog Try.f5 Rows.clusterOrderRow.domain false) (Rows.clusterOrderSpec.post enc Try.prog Try.f5 false true false false) := by
  refine returnsInHanded_of_change (C := Try.checked) own started (by kernel_rfl) Try.func5
    (ChangeSpec.witness6 (enc := enc) (C := Try.checked) false ⟨#[], #[.slice none 0 0, .slice none 0 0], []⟩ 8 (by kernel_rfl) (by kernel_rfl) (by kernel_rfl) (by kernel_rfl)) ?_
  intro W base args ds gs before hval0 hW hcnd _
  have hval : ∀ (j : Nat) t v, Try.f5.params[j]? = some t → args[j]? = some v → Value.okWide Try.prog W .any base t v := hval0
  have hW' := hW
  obtain ⟨p, q, hA0, hV, rfl, hfz, hnd⟩ := hW
  have hA : DataW.TrodAll enc Try.prog W 0 (fun _ => true) true Try.f5.params.toList args.toList ds p := hA0
  rw [Try.params5] at hA hval


  obtain ⟨v0, vs0, d0, ds0, p0, q0, hargs, rfl, rfl, h0, r0⟩ := trodAll_cons hA
  obtain ⟨v1, vs1, d1, ds1, p1, q1, rfl, rfl, rfl, h1, r1⟩ := trodAll_cons r0
  obtain ⟨rfl, rfl, rfl⟩ := trodAll_nil r1
  obtain rfl : args = #[v0, v1] := by cases args; simp_all
  obtain ⟨rfl, rfl⟩ := trodVars_none hV
  obtain ⟨a0, len0, cap0, rfl⟩ := okWide_slice Try.underlying29 (hval 0 29 v0 rfl rfl)
  have k0 := h0
  have lt0 : ∀ x ∈ p0, x.block < W.heap.size := by obtain ⟨m, hm⟩ := k0; exact DataW.trod_lt m _ _ _ hm
  obtain ⟨n0, w0⟩ : ∃ n, RowIs Try.prog W n 29 [.slice a0 len0 cap0] := by obtain ⟨fuel, hf⟩ := h0; exact ⟨fuel, rowIs_of_trod fuel _ _ _ hf⟩
  obtain ⟨a1, len1, cap1, rfl⟩ := okWide_slice Try.underlying30 (hval 1 30 v1 rfl rfl)
  have k1 := h1
  have lt1 : ∀ x ∈ p1, x.block < W.heap.size := by obtain ⟨m, hm⟩ := k1; exact DataW.trod_lt m _ _ _ hm
  obtain ⟨n1, w1⟩ : ∃ n, RowIs Try.prog W n 30 [.slice a1 len1 cap1] := by obtain ⟨fuel, hf⟩ := h1; exact ⟨fuel, rowIs_of_trod fuel _ _ _ hf⟩
  clear hA0 hval0
  refine (walk W a0 len0 cap0 n0 w0 a1 len1 cap1 n1 w1).mono fun e W' ⟨he, bel⟩ => ?_
  subst he
  exact ⟨_, rfl, _, _, _, [], _, [], hW', trodAll_mk1 (shut_bool Try.underlying4 _), (trodAll_cons_mk (Below.trod laidOut (by kernel_rfl) (of_decide_eq_true (by kernel_rfl)) k0 bel lt0) (trodAll_cons_mk (Below.trod laidOut (by kernel_rfl) (of_decide_eq_true (by kernel_rfl)) k1 bel lt1) trodAll_mk0)), rfl, bel.frame _, fun h => by cases h⟩
theorem over : Rows.clusterOrderRow.holds Try.pinned (OpenSpec.ofChange Rows.clusterOrderSpec) :=
  OpenClaim.holds_of_wide 5 Try.f5 rfl rfl rfl rfl rfl rfl rfl ⟨rfl, rfl, rfl, rfl, rfl⟩ rfl rfl rfl rfl rfl (by kernel_rfl) Try.func5 (by kernel_rfl)
    (of_decide_eq_true (by kernel_rfl)) (by unfold Func.isWrapper; first | (rw [if_pos (by decide +kernel)]; kernel_rfl) | (rw [if_neg (by decide +kernel)]; exact ⟨rfl, rfl⟩))
    (fun os started H enc _ => lifted os started H enc)
theorem proved : Rows.ClusterOrderSaid := over
#print axioms proved
end Go.Proofs.Ytgejdaincnclpaa.lawCO
