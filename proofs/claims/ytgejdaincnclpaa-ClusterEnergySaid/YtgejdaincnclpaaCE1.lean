/- Law ClusterEnergy returns true for every list of meetings and every list of vectors; each argument reads afterwards as it read before. No conditions. Merged texts: Open OpenV OpenVs OpenL ClO RsP ClM ClE ClY ClD DrawS ClW Sized LawCE (what no proof of the claim needs is left out). -/
import Derived.Test.YtgejdaincnclpaaCb6
import Derived.ProofKit
import Derived.OpenShut
import Derived.ChangeOld
import Derived.Below
import Derived.Carry
import Derived.Test.YtgejdaincnclpaaProg
import Derived.KernelRfl
import Derived.Lib.Hide
import Derived.BigCall
import Derived.SizedLaws
import Derived.Test.YtgejdaincnclpaaRows
namespace Go.Proofs.Ytgejdaincnclpaa
open Go Go.ChangeShapes Go.WideShapes Go.ChangeAt Go.RowKit
/-- What the cells of a datum of type t are, below n levels. -/
def RowIs (P : Program) (w : World) : Nat → TypeId → List Value → Prop
  | 0, _, _ => False
  | n + 1, t, cs =>
    match P.underlying t with
    | some (.int k) => ∃ z, cs = [.int k z] ∧ (Lit.int k z).wf = true
    | some .bool => ∃ b, cs = [.bool b]
    | some .string => ∃ s : ByteArray, cs = [.string s] ∧ s.size ≤ maxLen
    | some (.struct fs) => cs.length = P.cellsOf t ∧ ∀ f ∈ fs.toList, RowIs P w n f.type ((cs.drop f.offset).take (P.cellsOf f.type))
    | some (.slice e) => cs = [.slice none 0 0] ∨ ∃ (a : Addr) (len cap : Nat), cs = [.slice (some a) len cap] ∧ len ≤ cap ∧ cap ≤ maxLen ∧
        ∀ i, i < len → ∃ row, row.length = P.cellsOf e ∧ (∀ j v, row[j]? = some v → w.cell? (a.add (i * P.cellsOf e + j)) = some v) ∧ RowIs P w n e row
    | _ => True
section
variable {H : Type} {enc : TypeId × Value → H} {P : Program} {w : World}
theorem cells_at {base : Nat} {a : Addr} {n : Nat} {row : List Value} (h : w.cells? base a n = some row) : row.length = n ∧ ∀ j v, row[j]? = some v → w.cell? (a.add j) = some v := by
  unfold World.cells? at h
  split at h
  · have hl := mapM_some_length h
    simp at hl
    refine ⟨hl, fun j v hj => ?_⟩
    have hlt : j < n := by rw [← hl]; exact (List.getElem?_eq_some_iff.1 hj).1
    have := mapM_some_get h j j (by simp [hlt])
    rw [this, hj]
  · cases h
theorem add_add' (a : Addr) (i j : Nat) : (a.add i).add j = a.add (i + j) := by
  unfold Addr.add
  by_cases hi : i = 0 <;> by_cases hj : j = 0 <;> simp [hi, hj, Nat.add_assoc]
theorem rowIs_of_trod {base : Nat} {spare : Nat → Bool} {held : Bool} : ∀ (fuel : Nat) (t : TypeId) (cs : List Value) (x : DataW H × List MemPlace), DataW.trod enc P w base spare held fuel t cs = some x → RowIs P w fuel t cs := by
  intro fuel
  induction fuel with
  | zero => intro t cs x h; simp [DataW.trod] at h
  | succ n ih =>
    intro t cs x h
    cases hu : P.underlying t with
    | none => simp only [RowIs, hu]
    | some d =>
      cases d with
      | bool => obtain ⟨b, hb, _⟩ := DataW.trod_bool hu h; simp only [RowIs, hu]; exact ⟨b, hb⟩
      | int k => obtain ⟨z, hz, _, hw⟩ := DataW.trod_int hu h; simp only [RowIs, hu]; exact ⟨z, hz, hw⟩
      | string => obtain ⟨s, hs, _, hw⟩ := DataW.trod_string hu h; simp only [RowIs, hu]; exact ⟨s, hs, hw⟩
      | struct fs =>
        obtain ⟨xs, m, hm, _, hl, hxl, hf⟩ := DataW.trod_struct hu h
        obtain rfl : m = n := by omega
        simp only [RowIs, hu]
        refine ⟨hl, fun f hfm => ?_⟩
        obtain ⟨i, hi⟩ := List.getElem?_of_mem hfm
        have h1 := hf i f (by simpa using hi)
        have hlt : i < xs.length := by rw [hxl]; have := (List.getElem?_eq_some_iff.1 hi).1; simpa using this
        rw [List.getElem?_eq_getElem hlt] at h1
        exact ih _ _ _ h1
      | slice e =>
        simp only [RowIs, hu]
        rcases DataW.trod_slice hu h with ⟨h0, _⟩ | ⟨a, len, cap, elems, rest, m, hm, hcs, _, _, hlc, hcap, hel, hat, _⟩
        · exact .inl h0
        · obtain rfl : m = n := by omega
          refine .inr ⟨a, len, cap, hcs, hlc, hcap, fun i hi => ?_⟩
          have h1 := hat i hi
          have hlt : i < elems.length := by omega
          rw [List.getElem?_eq_getElem hlt] at h1
          obtain ⟨row, hr, ht⟩ := Option.bind_eq_some_iff.1 h1
          obtain ⟨hl, hc⟩ := cells_at hr
          exact ⟨row, hl, fun j v hj => by rw [← add_add']; exact hc j v hj, ih _ _ _ ht⟩
      | _ => simp only [RowIs, hu]
theorem rowIs_int {n : Nat} {t : TypeId} {k : IntKind} {cs : List Value} (hu : P.underlying t = some (.int k)) (h : RowIs P w n t cs) : ∃ z, cs = [.int k z] ∧ (Lit.int k z).wf = true := by
  cases n with
  | zero => exact h.elim
  | succ n => simpa only [RowIs, hu] using h
theorem rowIs_struct {n : Nat} {t : TypeId} {fs : Array Field} {cs : List Value} (hu : P.underlying t = some (.struct fs)) (h : RowIs P w n t cs) :
    cs.length = P.cellsOf t ∧ ∃ m, ∀ f ∈ fs.toList, RowIs P w m f.type ((cs.drop f.offset).take (P.cellsOf f.type)) := by
  cases n with
  | zero => exact h.elim
  | succ n => simp only [RowIs, hu] at h; exact ⟨h.1, n, h.2⟩
theorem rowIs_slice {n : Nat} {t e : TypeId} {cs : List Value} (hu : P.underlying t = some (.slice e)) (h : RowIs P w n t cs) :
    cs = [.slice none 0 0] ∨ ∃ (a : Addr) (len cap m : Nat), cs = [.slice (some a) len cap] ∧ len ≤ cap ∧ cap ≤ maxLen ∧
        ∀ i, i < len → ∃ row, row.length = P.cellsOf e ∧ (∀ j v, row[j]? = some v → w.cell? (a.add (i * P.cellsOf e + j)) = some v) ∧ RowIs P w m e row := by
  cases n with
  | zero => exact h.elim
  | succ n =>
    simp only [RowIs, hu] at h
    rcases h with h | ⟨a, len, cap, h1, h2, h3, h4⟩
    · exact .inl h
    · exact .inr ⟨a, len, cap, n, h1, h2, h3, h4⟩
theorem len1 {α : Type} {l : List α} (h : l.length = 1) : ∃ a, l = [a] := by
  match l, h with
  | [a], _ => exact ⟨a, rfl⟩
theorem len2 {α : Type} {l : List α} (h : l.length = 2) : ∃ a b, l = [a, b] := by
  match l, h with
  | [a, b], _ => exact ⟨a, b, rfl⟩
theorem all2 {α : Type} {p : α → Prop} {a b : α} (h : ∀ x ∈ (#[a, b] : Array α).toList, p x) : p a ∧ p b := ⟨h a (by simp), h b (by simp)⟩
theorem wf_bd {z : Int} (h : (Lit.int .i64 z).wf = true) : -9223372036854775808 ≤ z ∧ z ≤ 9223372036854775807 := by
  simp [Lit.wf, IntKind.min, IntKind.max, IntKind.signed, IntKind.bits] at h
  omega
end
end Go.Proofs.Ytgejdaincnclpaa
namespace Go.Proofs.Ytgejdaincnclpaa
open Go
def Bd (z : Int) : Prop := -9223372036854775808 ≤ z ∧ z ≤ 9223372036854775807
theorem cells_int : Try.prog.cellsOf 3 = 1 := by kernel_rfl
theorem cells_vec : Try.prog.cellsOf 32 = 2 := by kernel_rfl
theorem row_vec {w : World} {n : Nat} {cs : List Value} (h : RowIs Try.prog w n 32 cs) : ∃ x y : Int, cs = [.int .i64 x, .int .i64 y] ∧ Bd x ∧ Bd y := by
  obtain ⟨hl, m, hf⟩ := rowIs_struct Try.underlying32 h
  rw [cells_vec] at hl
  obtain ⟨c0, c1, rfl⟩ := len2 hl
  obtain ⟨h0, h1⟩ := all2 hf
  simp only [cells_int, List.drop_zero, List.drop_succ_cons, List.take_succ_cons, List.take_zero] at h0 h1
  obtain ⟨x, hx, wx⟩ := rowIs_int Try.underlying3 h0
  obtain ⟨y, hy, wy⟩ := rowIs_int Try.underlying3 h1
  simp only [List.cons.injEq, and_true] at hx hy
  exact ⟨x, y, by rw [hx, hy], wf_bd wx, wf_bd wy⟩
end Go.Proofs.Ytgejdaincnclpaa
namespace Go.Proofs.Ytgejdaincnclpaa
open Go
theorem vs_open {w : World} {n : Nat} {A : Option Addr} {len cap : Nat} (h : RowIs Try.prog w n 30 [.slice A len cap]) :
    len ≤ maxLen ∧ ∃ l : List V2, l.length = len ∧ VAt w A l ∧ ∀ x ∈ l, Bd x.1 ∧ Bd x.2 := by
  have none0 : len = 0 → len ≤ maxLen ∧ ∃ l : List V2, l.length = len ∧ VAt w A l ∧ ∀ x ∈ l, Bd x.1 ∧ Bd x.2 := fun h0 => by
    subst h0
    exact ⟨by unfold maxLen; omega, [], rfl, VAt.nil _ _, by simp⟩
  rcases rowIs_slice Try.underlying30 h with h0 | ⟨a, len', cap', m, hcs, hlc, hcap, hrows⟩
  · simp only [List.cons.injEq, Value.slice.injEq, and_true] at h0
    exact none0 h0.2.1
  · simp only [List.cons.injEq, Value.slice.injEq, and_true] at hcs
    obtain ⟨rfl, rfl, rfl⟩ := hcs
    rcases Nat.eq_zero_or_pos len with h0 | h0
    · exact none0 h0
    · refine ⟨by omega, ?_⟩
      have hr : ∀ i, i < len → ∃ x : V2, (Bd x.1 ∧ Bd x.2) ∧ ∀ j v, [Value.int .i64 x.1, .int .i64 x.2][j]? = some v → w.cell? (a.add (i * 2 + j)) = some v := by
        intro i hi
        obtain ⟨row, hl, hc, hrow⟩ := hrows i hi
        obtain ⟨x, y, rfl, hs⟩ := row_vec hrow
        rw [cells_vec] at hc
        exact ⟨(x, y), hs, hc⟩
      obtain ⟨x0, _, hx0⟩ := hr 0 h0
      have hc0 := hx0 0 _ rfl
      obtain ⟨g, o, spot⟩ := a
      have hsp : spot = none := by simpa [Addr.add] using World.cell?_spot hc0
      subst hsp
      have hg : g < w.heap.size := by
        have := World.block_lt_of_cell? w _ hc0
        simpa [Addr.add] using this
      clear hc0 hx0
      have build : ∀ m, m ≤ len → ∃ l : List V2, l.length = m ∧ (∀ k x, l[k]? = some x → (Bd x.1 ∧ Bd x.2) ∧ ∀ j v, [Value.int .i64 x.1, .int .i64 x.2][j]? = some v → w.cell? ((⟨g, o, none⟩ : Addr).add (k * 2 + j)) = some v) := by
        intro m
        induction m with
        | zero => intro _; exact ⟨[], rfl, fun k x h => by simp at h⟩
        | succ m ih =>
          intro hm
          obtain ⟨l, hl, hp⟩ := ih (by omega)
          obtain ⟨x, hx⟩ := hr m (by omega)
          refine ⟨l ++ [x], by simp [hl], fun k y hk => ?_⟩
          rcases Nat.lt_or_ge k l.length with h | h
          · rw [List.getElem?_append_left h] at hk; exact hp k y hk
          · rw [List.getElem?_append_right h] at hk
            have hk0 : k = m := by
              have := (List.getElem?_eq_some_iff.1 hk).1
              simp at this; omega
            subst hk0
            rw [hl, Nat.sub_self] at hk
            simp only [List.getElem?_cons_zero, Option.some.injEq] at hk
            subst hk
            exact hx
      obtain ⟨l, hl, hp⟩ := build len (Nat.le_refl _)
      have hadd : ∀ j, (⟨g, o, none⟩ : Addr).add j = ⟨g, o + j, none⟩ := by intro j; unfold Addr.add; split <;> simp_all
      refine ⟨l, hl, fun k x hx => ⟨g, o, rfl, hg, ?_, ?_⟩, fun x hx => ?_⟩
      · have := (hp k x hx).2 0 _ rfl; rwa [hadd, Nat.add_zero] at this
      · have := (hp k x hx).2 1 _ rfl; rwa [hadd, ← Nat.add_assoc] at this
      · obtain ⟨k, hk⟩ := List.getElem?_of_mem hx
        exact (hp k x hk).1
end Go.Proofs.Ytgejdaincnclpaa
namespace Go.Proofs.Ytgejdaincnclpaa
open Go Go.RowKit
theorem slice_open {α : Type} {w : World} {n : Nat} {t e : TypeId} {A : Option Addr} {len cap size : Nat} (hu : Try.prog.underlying t = some (.slice e)) (h : RowIs Try.prog w n t [.slice A len cap]) (hc : Try.prog.cellsOf e = size)
    (cells : α → List Value) (ok : α → Prop) (hpos : ∀ x, ∃ v r, cells x = v :: r) (hrow : ∀ m row, RowIs Try.prog w m e row → ∃ x, ok x ∧ row = cells x) :
    len ≤ maxLen ∧ ∃ l : List α, l.length = len ∧ (∀ x ∈ l, ok x) ∧ ∀ k x, l[k]? = some x → ∃ g o, A = some ⟨g, o, none⟩ ∧ g < w.heap.size ∧ ∀ j v, (cells x)[j]? = some v → w.cell? ⟨g, o + (k * size + j), none⟩ = some v := by
  have none0 : len = 0 → len ≤ maxLen ∧ ∃ l : List α, l.length = len ∧ (∀ x ∈ l, ok x) ∧ ∀ k x, l[k]? = some x → ∃ g o, A = some ⟨g, o, none⟩ ∧ g < w.heap.size ∧ ∀ j v, (cells x)[j]? = some v → w.cell? ⟨g, o + (k * size + j), none⟩ = some v := fun h0 => by
    subst h0
    exact ⟨by unfold maxLen; omega, [], rfl, by simp, fun k x h => by simp at h⟩
  rcases rowIs_slice hu h with h0 | ⟨a, len', cap', m, hcs, hlc, hcap, hrows⟩
  · simp only [List.cons.injEq, Value.slice.injEq, and_true] at h0
    exact none0 h0.2.1
  · simp only [List.cons.injEq, Value.slice.injEq, and_true] at hcs
    obtain ⟨rfl, rfl, rfl⟩ := hcs
    rcases Nat.eq_zero_or_pos len with h0 | h0
    · exact none0 h0
    · refine ⟨by omega, ?_⟩
      have hr : ∀ i, i < len → ∃ x : α, ok x ∧ ∀ j v, (cells x)[j]? = some v → w.cell? (a.add (i * size + j)) = some v := by
        intro i hi
        obtain ⟨row, hl, hc', hrw⟩ := hrows i hi
        obtain ⟨x, hx, rfl⟩ := hrow _ _ hrw
        rw [hc] at hc'
        exact ⟨x, hx, hc'⟩
      obtain ⟨x0, _, hx0⟩ := hr 0 h0
      obtain ⟨v0, r0, e0⟩ := hpos x0
      have hc0 := hx0 0 v0 (by rw [e0]; rfl)
      obtain ⟨g, o, spot⟩ := a
      have hsp : spot = none := by simpa [Addr.add] using World.cell?_spot hc0
      subst hsp
      have hg : g < w.heap.size := by
        have := World.block_lt_of_cell? w _ hc0
        simpa [Addr.add] using this
      clear hc0 hx0 e0
      have build : ∀ m, m ≤ len → ∃ l : List α, l.length = m ∧ (∀ k x, l[k]? = some x → ok x ∧ ∀ j v, (cells x)[j]? = some v → w.cell? ((⟨g, o, none⟩ : Addr).add (k * size + j)) = some v) := by
        intro m
        induction m with
        | zero => intro _; exact ⟨[], rfl, fun k x h => by simp at h⟩
        | succ m ih =>
          intro hm
          obtain ⟨l, hl, hp⟩ := ih (by omega)
          obtain ⟨x, hx⟩ := hr m (by omega)
          refine ⟨l ++ [x], by simp [hl], fun k y hk => ?_⟩
          rcases Nat.lt_or_ge k l.length with h | h
          · rw [List.getElem?_append_left h] at hk; exact hp k y hk
          · rw [List.getElem?_append_right h] at hk
            have hk0 : k = m := by
              have := (List.getElem?_eq_some_iff.1 hk).1
              simp at this; omega
            subst hk0
            rw [hl, Nat.sub_self] at hk
            simp only [List.getElem?_cons_zero, Option.some.injEq] at hk
            subst hk
            exact hx
      obtain ⟨l, hl, hp⟩ := build len (Nat.le_refl _)
      have hadd : ∀ j, (⟨g, o, none⟩ : Addr).add j = ⟨g, o + j, none⟩ := by intro j; unfold Addr.add; split <;> simp_all
      refine ⟨l, hl, fun x hx => ?_, fun k x hx => ⟨g, o, rfl, hg, fun j v hj => ?_⟩⟩
      · obtain ⟨k, hk⟩ := List.getElem?_of_mem hx
        exact (hp k x hk).1
      · have := (hp k x hx).2 j v hj; rwa [hadd] at this
end Go.Proofs.Ytgejdaincnclpaa
namespace Go.Proofs.Ytgejdaincnclpaa
open Go Go.RowKit
def Mt.bd (m : Mt) : Prop := (Bd m.a ∧ Bd m.b) ∧ (Bd m.n1 ∧ Bd m.n2) ∧ (Bd m.w1 ∧ Bd m.w2) ∧ (Bd m.k1 ∧ Bd m.k2) ∧ Bd m.e ∧ Bd m.g
theorem cells_meeting : Try.prog.cellsOf 34 = 10 := by kernel_rfl
theorem len10 {α : Type} {l : List α} (h : l.length = 10) : ∃ a b c d e f g i j k, l = [a, b, c, d, e, f, g, i, j, k] := by
  match l, h with
  | [a, b, c, d, e, f, g, i, j, k], _ => exact ⟨a, b, c, d, e, f, g, i, j, k, rfl⟩
theorem all7 {α : Type} {p : α → Prop} {a b c d e f g : α} (h : ∀ x ∈ (#[a, b, c, d, e, f, g] : Array α).toList, p x) : p a ∧ p b ∧ p c ∧ p d ∧ p e ∧ p f ∧ p g := ⟨h a (by simp), h b (by simp), h c (by simp), h d (by simp), h e (by simp), h f (by simp), h g (by simp)⟩
theorem row_meeting {w : World} {n : Nat} {cs : List Value} (h : RowIs Try.prog w n 34 cs) : ∃ x : Mt, x.bd ∧ cs = x.cells := by
  obtain ⟨hl, m, hf⟩ := rowIs_struct Try.underlying34 h
  rw [cells_meeting] at hl
  obtain ⟨c0, c1, c2, c3, c4, c5, c6, c7, c8, c9, rfl⟩ := len10 hl
  obtain ⟨h0, h1, h2, h3, h4, h5, h6⟩ := all7 hf
  simp only [cells_int, cells_vec, List.drop_zero, List.drop_succ_cons, List.take_succ_cons, List.take_zero] at h0 h1 h2 h3 h4 h5 h6
  obtain ⟨z0, e0, w0⟩ := rowIs_int Try.underlying3 h0
  obtain ⟨z1, e1, w1⟩ := rowIs_int Try.underlying3 h1
  obtain ⟨x2, y2, e2, b2, d2⟩ := row_vec h2
  obtain ⟨x3, y3, e3, b3, d3⟩ := row_vec h3
  obtain ⟨x4, y4, e4, b4, d4⟩ := row_vec h4
  obtain ⟨z5, e5, w5⟩ := rowIs_int Try.underlying3 h5
  obtain ⟨z6, e6, w6⟩ := rowIs_int Try.underlying3 h6
  simp only [List.cons.injEq, and_true] at e0 e1 e2 e3 e4 e5 e6
  exact ⟨⟨z0, z1, x2, y2, x3, y3, x4, y4, z5, z6⟩, ⟨⟨wf_bd w0, wf_bd w1⟩, ⟨b2, d2⟩, ⟨b3, d3⟩, ⟨b4, d4⟩, wf_bd w5, wf_bd w6⟩, by rw [e0, e1, e2.1, e2.2, e3.1, e3.2, e4.1, e4.2, e5, e6]; rfl⟩
theorem meetings_open {w : World} {n : Nat} {A : Option Addr} {len cap : Nat} (h : RowIs Try.prog w n 29 [.slice A len cap]) : len ≤ maxLen ∧ ∃ l : List Mt, l.length = len ∧ MAt w A l ∧ ∀ x ∈ l, x.bd := by
  obtain ⟨h1, l, hl, hok, hp⟩ := slice_open Try.underlying29 h cells_meeting Mt.cells Mt.bd (fun x => ⟨_, _, rfl⟩) (fun m row hr => row_meeting hr)
  refine ⟨h1, l, hl, fun k x hx => ?_, hok⟩
  obtain ⟨g, o, hA, hg, hc⟩ := hp k x hx
  have c0 := hc 0 _ rfl
  have c1 := hc 1 _ rfl
  have c2 := hc 2 _ rfl
  have c3 := hc 3 _ rfl
  have c4 := hc 4 _ rfl
  have c5 := hc 5 _ rfl
  have c6 := hc 6 _ rfl
  have c7 := hc 7 _ rfl
  have c8 := hc 8 _ rfl
  have c9 := hc 9 _ rfl
  simp only [← Nat.add_assoc, Nat.add_zero] at c0 c1 c2 c3 c4 c5 c6 c7 c8 c9
  exact ⟨g, o, hA, hg, c0, c1, c2, c3, c4, c5, c6, c7, c8, c9⟩
end Go.Proofs.Ytgejdaincnclpaa
namespace Go.Proofs.Ytgejdaincnclpaa
open Go Go.RowKit
set_option linter.unusedVariables false
theorem stat_leq {v1 v2 n1 n2 e g : Int} (hp : permB v1 v2 0 0 n1 n2 = true) (he : sixB e = true) (hg : sixB g = true) : Leq (statR v1 v2 0 0 n1 n2 e g) (v1 * v1 + v2 * v2) := by
  cases ha : apprB v1 v2 0 0 n1 n2
  · rw [statR_off hp ha he hg]
    unfold Leq
    simp only
    omega
  · rw [statR_on ha he hg]
    obtain ⟨_, _, q⟩ := appr_bd ha
    simp only [sixB, decide_eq_true_eq] at he hg
    have hrel := rel_leq v1 v2 n1 n2 e g he hg
    refine leq_low (by omega) ?_
    simp only [Int.sub_zero]
    have r1 : statX v1 v1 n1 (n1 * n1 + n2 * n2) (v1 * n1 + v2 * n2) e g = (16 - g) * v1 * (n1 * n1 + n2 * n2) - (16 + e - g) * n1 * (v1 * n1 + v2 * n2) := by unfold statX; grind
    have r2 : statX v2 v2 n2 (n1 * n1 + n2 * n2) (v1 * n1 + v2 * n2) e g = (16 - g) * v2 * (n1 * n1 + n2 * n2) - (16 + e - g) * n2 * (v1 * n1 + v2 * n2) := by unfold statX; grind
    rw [r1, r2]
    exact hrel
end Go.Proofs.Ytgejdaincnclpaa
namespace Go.Proofs.Ytgejdaincnclpaa
open Go Go.RowKit
set_option linter.unusedVariables false
theorem sumR_pos {s r : Int × Int × Int} (hs : 0 < s.2.2) (hr : 0 < r.2.2) : 0 < (sumR s r).2.2 := by
  unfold sumR
  obtain ⟨G, hG, e1, e2, e3, hd⟩ := lowR_mul (s.1 * r.2.2 + r.1 * s.2.2) (s.2.1 * r.2.2 + r.2.1 * s.2.2) (s.2.2 * r.2.2) (Int.mul_pos hs hr)
  exact hd
theorem mem_ballsL {l : List Mt} {x : Int} : x ∈ ballsL l ↔ ∃ m ∈ l, x ∈ (if m.b = -1 then [m.a] else [m.a, m.b]) := by
  unfold ballsL; rw [List.mem_flatMap]
theorem resR_ok {l : List Mt} {v : List V2} (h : (resR l v).2.2 = 0) : ¬ (16 < l.length ∨ 64 < v.length) ∧ v.all (nearB 1048576) = true ∧ (∀ m ∈ l, PermM m v.length) := by
  unfold resR at h
  split at h
  · simp at h
  · rename_i h1
    split at h
    · rename_i h2
      exact ⟨h1, h2.1, fun m hm => permM_iff.1 (List.all_eq_true.1 h2.2 m hm)⟩
    · simp at h
theorem resR_val {l : List Mt} {v : List V2} (h1 : ¬ (16 < l.length ∨ 64 < v.length)) (hv : v.all (nearB 1048576) = true) (hp : ∀ m ∈ l, PermM m v.length) : resR l v = (putV (effL l v) v (ballsE l v) v, chgV (effL l v) v (ballsE l v), 0) := by
  unfold resR
  rw [if_neg h1, if_pos ⟨hv, List.all_eq_true.2 fun m hm => permM_iff.2 (hp m hm)⟩]
end Go.Proofs.Ytgejdaincnclpaa
namespace Go.Proofs.Ytgejdaincnclpaa
open Go Go.RowKit
set_option linter.unusedVariables false
/-- A sum over the first n numbers. -/
def sumTo (f : Nat → Rat) : Nat → Rat
  | 0 => 0
  | n + 1 => sumTo f n + f n
theorem sumTo_le {f g : Nat → Rat} {n : Nat} (h : ∀ k, k < n → f k ≤ g k) : sumTo f n ≤ sumTo g n := by
  induction n with
  | zero => exact Rat.le_refl
  | succ n ih =>
    have h1 := ih (fun k hk => h k (by omega))
    have h2 := h n (by omega)
    show sumTo f n + f n ≤ sumTo g n + g n
    grind
theorem sumTo_add (f g : Nat → Rat) (n : Nat) : sumTo (fun k => f k + g k) n = sumTo f n + sumTo g n := by
  induction n with
  | zero => show (0 : Rat) = 0 + 0; grind
  | succ n ih => show sumTo (fun k => f k + g k) n + (f n + g n) = (sumTo f n + f n) + (sumTo g n + g n); rw [ih]; grind
theorem sumTo_mul (c : Rat) (f : Nat → Rat) (n : Nat) : sumTo (fun k => c * f k) n = c * sumTo f n := by
  induction n with
  | zero => show (0 : Rat) = c * 0; grind
  | succ n ih => show sumTo (fun k => c * f k) n + c * f n = c * (sumTo f n + f n); rw [ih]; grind
theorem sumTo_two {f : Nat → Rat} {a b : Nat} (hab : a ≠ b) (h : ∀ k, k ≠ a → k ≠ b → f k ≤ 0) : ∀ n, sumTo f n ≤ (if a < n then f a else 0) + (if b < n then f b else 0)
  | 0 => by simp only [Nat.not_lt_zero, if_false]; show (0 : Rat) ≤ 0 + 0; grind
  | n + 1 => by
    have ih := sumTo_two hab h n
    show sumTo f n + f n ≤ _
    by_cases ha : n = a
    · subst ha
      have e1 : ¬ n < n := by omega
      have e2 : n < n + 1 := by omega
      have e3 : (b < n + 1) = (b < n) := by simp; omega
      simp only [e3, if_pos e2]
      rw [if_neg e1] at ih
      grind
    · by_cases hb : n = b
      · subst hb
        have e1 : ¬ n < n := by omega
        have e2 : n < n + 1 := by omega
        have e3 : (a < n + 1) = (a < n) := by simp; omega
        simp only [e3, if_pos e2]
        rw [if_neg e1] at ih
        grind
      · have e3 : (a < n + 1) = (a < n) := by simp; omega
        have e4 : (b < n + 1) = (b < n) := by simp; omega
        simp only [e3, e4]
        have := h n ha hb
        grind
theorem sumTo_swap {α : Type} (g : α → Nat → Rat) : ∀ (L : List α) (n : Nat), sumTo (fun k => (L.map (fun m => g m k)).sum) n = (L.map (fun m => sumTo (g m) n)).sum
  | [], n => by
    induction n with
    | zero => rfl
    | succ n ih => show sumTo _ n + (0 : Rat) = 0; rw [ih]; show (0 : Rat) + 0 = 0; grind
  | m :: L, n => by
    have ih := sumTo_swap g L n
    have : (fun k => ((m :: L).map (fun m => g m k)).sum) = fun k => g m k + (L.map (fun m => g m k)).sum := rfl
    rw [this, sumTo_add, ih]
    rfl
theorem sum_le {L : List Rat} {C : Rat} (h : ∀ x ∈ L, x ≤ C) : L.sum ≤ (L.length : Int) * C := by
  induction L with
  | nil => show (0 : Rat) ≤ ((0 : Int) : Rat) * C; grind
  | cons x L ih =>
    have h1 := ih (fun y hy => h y (List.mem_cons_of_mem _ hy))
    have h2 := h x (by simp)
    rw [List.sum_cons, List.length_cons]
    have e : (((L.length + 1 : Nat) : Int) : Rat) = ((L.length : Int) : Rat) + 1 := by
      rw [show ((L.length + 1 : Nat) : Int) = (L.length : Int) + 1 from rfl, Rat.intCast_add]; rfl
    rw [e]
    grind
theorem le_of_mul {a b c : Rat} (hc : 0 < c) (h : c * a ≤ c * b) : a ≤ b := by
  exact Rat.le_of_mul_le_mul_left h hc
theorem castpos {d : Int} (h : 0 < d) : (0 : Rat) < (d : Rat) := by
  have := Rat.intCast_lt_intCast (a := 0) (b := d)
  exact this.2 h
theorem castle {a b : Int} (h : a ≤ b) : (a : Rat) ≤ (b : Rat) := Rat.intCast_le_intCast.2 h
theorem sqr_nn (z : Rat) : 0 ≤ z * z := by
  rcases Rat.le_total (a := 0) (b := z) with h | h
  · exact Rat.mul_nonneg h h
  · have h1 : 0 ≤ -z := by grind
    have h2 := Rat.mul_nonneg h1 h1
    have : -z * -z = z * z := by grind
    rwa [this] at h2
/-- The product of a vector and a Ratio. -/
def dotQ (u : Int × Int) (r : Int × Int × Int) : Rat := ((u.1 * r.1 + u.2 * r.2.1 : Int) : Rat) / (r.2.2 : Rat)
def sqV (u : Int × Int) : Int := u.1 * u.1 + u.2 * u.2
def sqQ (u : Int × Int) : Rat := (sqV u : Rat)
theorem dotQ_mul {u : Int × Int} {r : Int × Int × Int} (h : 0 < r.2.2) : dotQ u r * (r.2.2 : Rat) = ((u.1 * r.1 + u.2 * r.2.1 : Int) : Rat) := by
  have := castpos h
  unfold dotQ
  grind
theorem dotQ_of {u : Int × Int} {r : Int × Int × Int} (h : 0 < r.2.2) {q : Rat} (e : q * (r.2.2 : Rat) = ((u.1 * r.1 + u.2 * r.2.1 : Int) : Rat)) : dotQ u r = q := by
  have := castpos h
  unfold dotQ
  rw [← e]
  grind
theorem castmul (a b : Int) : ((a * b : Int) : Rat) = (a : Rat) * b := Rat.intCast_mul a b
theorem castadd (a b : Int) : ((a + b : Int) : Rat) = (a : Rat) + b := Rat.intCast_add a b
/-- One Ratio that is no longer than v. -/
theorem one_le {u v : Int × Int} {r : Int × Int × Int} (hd : 0 < r.2.2) (h : r.1 * r.1 + r.2.1 * r.2.1 ≤ r.2.2 * r.2.2 * sqV v) : 2 * dotQ u r ≤ sqQ u + sqQ v := by
  have e := dotQ_mul (u := u) hd
  have hp := castpos hd
  have h' := castle h
  unfold sqQ
  generalize dotQ u r = q at *
  generalize sqV v = V at *
  unfold sqV
  obtain ⟨x, y, d⟩ := r
  obtain ⟨a, b⟩ := u
  simp only [castmul, castadd] at *
  generalize (x : Rat) = x at *
  generalize (y : Rat) = y at *
  generalize (d : Rat) = d at *
  generalize (a : Rat) = a at *
  generalize (b : Rat) = b at *
  generalize (V : Rat) = V at *
  refine le_of_mul (c := d * d) (Rat.mul_pos hp hp) ?_
  have s1 := sqr_nn (d * a - x)
  have s2 := sqr_nn (d * b - y)
  have e2 : d * d * (2 * q) = 2 * d * (a * x + b * y) := by rw [← e]; grind
  rw [e2]
  grind
theorem two_core {q1 q2 x y d x' y' d' a b a' b' E : Rat} (hp : 0 < d) (hp' : 0 < d') (h : (x * x + y * y) * (d' * d') + (x' * x' + y' * y') * (d * d) ≤ d * d * (d' * d') * E)
    (e : q1 * d = a * x + b * y) (e' : q2 * d' = a' * x' + b' * y') : 2 * q1 + 2 * q2 ≤ a * a + b * b + (a' * a' + b' * b') + E := by
  have hD : 0 < d * d * (d' * d') := Rat.mul_pos (Rat.mul_pos hp hp) (Rat.mul_pos hp' hp')
  refine le_of_mul hD ?_
  have k1 : 0 ≤ d' * d' * ((d * a - x) * (d * a - x)) := Rat.mul_nonneg (sqr_nn d') (sqr_nn _)
  have k2 : 0 ≤ d' * d' * ((d * b - y) * (d * b - y)) := Rat.mul_nonneg (sqr_nn d') (sqr_nn _)
  have k3 : 0 ≤ d * d * ((d' * a' - x') * (d' * a' - x')) := Rat.mul_nonneg (sqr_nn d) (sqr_nn _)
  have k4 : 0 ≤ d * d * ((d' * b' - y') * (d' * b' - y')) := Rat.mul_nonneg (sqr_nn d) (sqr_nn _)
  have e1 : d * d * (d' * d') * (2 * q1 + 2 * q2) = d' * d' * (2 * d * (a * x + b * y)) + d * d * (2 * d' * (a' * x' + b' * y')) := by rw [← e, ← e']; grind
  rw [e1]
  grind
/-- Two Ratios that together are no longer than v and w. -/
theorem two_le {u u' v w : Int × Int} {r s : Int × Int × Int} (hd : 0 < r.2.2) (hd' : 0 < s.2.2) (h : (r.1 * r.1 + r.2.1 * r.2.1) * (s.2.2 * s.2.2) + (s.1 * s.1 + s.2.1 * s.2.1) * (r.2.2 * r.2.2) ≤ (r.2.2 * r.2.2) * (s.2.2 * s.2.2) * (sqV v + sqV w)) :
    2 * dotQ u r + 2 * dotQ u' s ≤ sqQ u + sqQ u' + (sqQ v + sqQ w) := by
  have e := dotQ_mul (u := u) hd
  have e' := dotQ_mul (u := u') hd'
  have hp := castpos hd
  have hp' := castpos hd'
  have h' := castle h
  unfold sqQ
  generalize dotQ u r = q at *
  generalize dotQ u' s = q' at *
  generalize sqV v = V at *
  generalize sqV w = W at *
  unfold sqV
  simp only [castmul, castadd] at *
  exact two_core hp hp' h' e e'
theorem dotQ_self {u v : Int × Int} : 2 * dotQ u (v.1, v.2, 1) ≤ sqQ u + sqQ v := one_le (show (0 : Int) < 1 by decide) (by unfold sqV; simp only; omega)
theorem dotQ_same (u : Int × Int) : dotQ u (u.1, u.2, 1) = sqQ u := dotQ_of (show (0 : Int) < 1 by decide) (by show sqQ u * ((1 : Int) : Rat) = _; unfold sqQ sqV; rw [show ((1 : Int) : Rat) = 1 from rfl, Rat.mul_one])
theorem eq_of_mulQ {a b c : Rat} (hc : 0 < c) (h : c * a = c * b) : a = b := by
  have h1 : c * a ≤ c * b := by rw [h]; exact Rat.le_refl
  have h2 : c * b ≤ c * a := by rw [h]; exact Rat.le_refl
  exact Rat.le_antisymm (le_of_mul hc h1) (le_of_mul hc h2)
theorem dotQ_low {u : Int × Int} {x y d : Int} (hd : 0 < d) : dotQ u (lowR x y d) = dotQ u (x, y, d) := by
  obtain ⟨G, hG, e1, e2, e3, hd'⟩ := lowR_mul x y d hd
  generalize lowR x y d = L at *
  obtain ⟨x', y', d'⟩ := L
  simp only at *
  have k1 := dotQ_mul (u := u) (r := (x, y, d)) hd
  generalize dotQ u (x, y, d) = q at *
  refine dotQ_of hd' ?_
  refine eq_of_mulQ (castpos hG) ?_
  simp only at *
  rw [e1, e2, e3] at k1
  simp only [castmul, castadd] at *
  grind
theorem dotQ_sum {u : Int × Int} {s r : Int × Int × Int} (hs : 0 < s.2.2) (hr : 0 < r.2.2) : dotQ u (sumR s r) = dotQ u s + dotQ u r := by
  unfold sumR
  rw [dotQ_low (Int.mul_pos hs hr)]
  have k1 := dotQ_mul (u := u) hs
  have k2 := dotQ_mul (u := u) hr
  generalize dotQ u s = p at *
  generalize dotQ u r = q at *
  refine dotQ_of (Int.mul_pos hs hr) ?_
  simp only [castmul, castadd] at *
  grind
theorem dotQ_fold {u : Int × Int} : ∀ (l : List (Int × Int × Int)) (s : Int × Int × Int), 0 < s.2.2 → (∀ r ∈ l, 0 < r.2.2) → dotQ u (l.foldl sumR s) = dotQ u s + (l.map (dotQ u)).sum ∧ 0 < (l.foldl sumR s).2.2
  | [], s, hs, _ => ⟨by show dotQ u s = dotQ u s + 0; rw [Rat.add_zero], hs⟩
  | r :: l, s, hs, h => by
    have hr := h r (by simp)
    obtain ⟨e, hd⟩ := dotQ_fold (u := u) l (sumR s r) (sumR_pos hs hr) (fun x hx => h x (List.mem_cons_of_mem _ hx))
    refine ⟨?_, hd⟩
    rw [List.foldl_cons, e, dotQ_sum hs hr, List.map_cons, List.sum_cons, Rat.add_assoc]
theorem clamp_part {a b : Int} (hb : 0 < b) : clampR (a.tdiv b) * clampR (a.tdiv b) * b ≤ clampR (a.tdiv b) * a := by
  have hq := Int.mul_tdiv_add_tmod a b
  generalize ht : a.tdiv b = t at *
  rcases Int.le_total 0 a with ha | ha
  · have h1 : 0 ≤ t := by rw [← ht]; exact Int.tdiv_nonneg ha (by omega)
    have h2 : 0 ≤ a.tmod b := Int.tmod_nonneg _ ha
    have h3 : 0 ≤ clampR t ∧ clampR t ≤ t := by unfold clampR; omega
    generalize clampR t = c at *
    have h4 : c * b ≤ a := by
      have := Int.mul_le_mul_of_nonneg_right h3.2 (Int.le_of_lt hb)
      have e : t * b = b * t := Int.mul_comm _ _
      omega
    have := Int.mul_le_mul_of_nonneg_left h4 h3.1
    rw [Int.mul_assoc]; exact this
  · have h1 : t ≤ 0 := by
      rw [← ht]
      have := Int.tdiv_nonneg (a := -a) (b := b) (by omega) (by omega)
      rw [Int.neg_tdiv] at this; omega
    have h2 : a.tmod b ≤ 0 := by
      have := Int.tmod_nonneg (a := -a) b (by omega)
      rw [Int.neg_tmod] at this; omega
    have h3 : clampR t ≤ 0 ∧ t ≤ clampR t := by unfold clampR; omega
    generalize clampR t = c at *
    have h4 : a ≤ c * b := by
      have := Int.mul_le_mul_of_nonneg_right h3.2 (Int.le_of_lt hb)
      have e : t * b = b * t := Int.mul_comm _ _
      omega
    have := Int.mul_le_mul_of_nonpos_left h3.1 h4
    rw [Int.mul_assoc]; exact this
theorem mean_dot {l : List (Int × Int × Int)} (h : ∀ r ∈ l, 0 < r.2.2) (hl : 0 < l.length) : ((l.length : Int) : Rat) * sqQ (clampR (meanR l).1, clampR (meanR l).2) ≤ (l.map (dotQ (clampR (meanR l).1, clampR (meanR l).2))).sum := by
  generalize hu : (clampR (meanR l).1, clampR (meanR l).2) = u
  obtain ⟨e, hd⟩ := dotQ_fold (u := u) l (0, 0, 1) (by decide) h
  have e0 : dotQ u (0, 0, 1) = 0 := dotQ_of (show (0 : Int) < 1 by decide) (by simp only [Int.mul_zero, Int.add_zero]; show (0 : Rat) * _ = 0; rw [Rat.zero_mul])
  rw [e0, Rat.zero_add] at e
  rw [← e]
  have hn : 0 < (l.length : Int) := by omega
  have hD := Int.mul_pos hd hn
  have c1 := clamp_part (a := (meanS l).1) hD
  have c2 := clamp_part (a := (meanS l).2.1) hD
  have hq := dotQ_mul (u := u) hd
  have hu1 : u.1 = clampR ((meanS l).1.tdiv ((meanS l).2.2 * l.length)) := by rw [← hu]; rfl
  have hu2 : u.2 = clampR ((meanS l).2.1.tdiv ((meanS l).2.2 * l.length)) := by rw [← hu]; rfl
  have hS : l.foldl sumR (0, 0, 1) = meanS l := rfl
  rw [hS] at hq hd c1 c2 ⊢
  rw [← hu1] at c1
  rw [← hu2] at c2
  generalize meanS l = S at *
  generalize (l.length : Int) = n at *
  obtain ⟨x, y, d⟩ := S
  obtain ⟨a, b⟩ := u
  simp only at *
  have c := castle (Int.add_le_add c1 c2)
  generalize dotQ (a, b) (x, y, d) = q at *
  unfold sqQ sqV
  simp only [castmul, castadd] at *
  refine le_of_mul (castpos hd) ?_
  grind
def stillM (m : Mt) : Mt := ⟨m.a, m.b, m.n1, m.n2, 0, 0, 0, 0, m.e, m.g⟩
def Still (m : Mt) : Prop := m.w1 = 0 ∧ m.w2 = 0 ∧ m.k1 = 0 ∧ m.k2 = 0
/-- The sum of the squares of the first n. -/
def enTo (v : List V2) : Nat → Int
  | 0 => 0
  | n + 1 => enTo v n + sqV (v.getD n (0, 0))
theorem enTo_cast (v : List V2) (n : Nat) : sumTo (fun k => sqQ (v.getD k (0, 0))) n = ((enTo v n : Int) : Rat) := by
  induction n with
  | zero => rfl
  | succ n ih =>
    show sumTo _ n + sqQ (v.getD n (0, 0)) = ((enTo v n + sqV (v.getD n (0, 0)) : Int) : Rat)
    rw [ih, castadd]; rfl
theorem kickS_zero (r : Int × Int × Int) : kickS r 0 0 = r := by unfold kickS; simp
/-- One meeting with a surface at rest, or of two balls, does not increase the energy. -/
theorem one_meeting {m : Mt} {v : List V2} (hp : PermM m v.length) (hs : Still m) (hv : v.all (nearB 1048576) = true) (u : Nat → V2) :
    2 * sumTo (fun k => dotQ (u k) (aloneR m v (k : Int))) v.length ≤ sumTo (fun k => sqQ (u k)) v.length + sumTo (fun k => sqQ (v.getD k (0, 0))) v.length := by
  obtain ⟨s1, s2, s3, s4⟩ := hs
  have na := near_get hv hp.a0 hp.a1
  have ha0 := hp.a0
  have ha1 := hp.a1
  have hb0 := hp.b0
  have hb1 := hp.b1
  have hoth : ∀ k : Nat, ¬ (k : Int) = m.a → ¬ (k : Int) = m.b → 2 * dotQ (u k) (aloneR m v (k : Int)) + (-1) * (sqQ (u k) + sqQ (v.getD k (0, 0))) ≤ 0 := fun k h1 h2 => by
    have e : aloneR m v (k : Int) = ((v.getD k (0, 0)).1, (v.getD k (0, 0)).2, 1) := by
      unfold aloneR
      rw [if_neg (fun h => h1 h.2), if_neg (fun h => h2 h.2), if_neg h1]; rfl
    rw [e]
    have := dotQ_self (u := u k) (v := v.getD k (0, 0))
    grind
  have key : sumTo (fun k => 2 * dotQ (u k) (aloneR m v (k : Int)) + (-1) * (sqQ (u k) + sqQ (v.getD k (0, 0)))) v.length ≤ 0 := by
    by_cases hb : m.b = -1
    · have h1 : ∀ k : Nat, ¬ k = m.a.toNat → ¬ k = m.a.toNat + 1 → 2 * dotQ (u k) (aloneR m v (k : Int)) + (-1) * (sqQ (u k) + sqQ (v.getD k (0, 0))) ≤ 0 := fun k h1 _ => hoth k (by omega) (by omega)
      have h2 := hoth (m.a.toNat + 1) (by omega) (by omega)
      have h3 : 2 * dotQ (u m.a.toNat) (aloneR m v (m.a.toNat : Int)) + (-1) * (sqQ (u m.a.toNat) + sqQ (v.getD m.a.toNat (0, 0))) ≤ 0 := by
        have e : aloneR m v (m.a.toNat : Int) = statR (v.getD m.a.toNat (0, 0)).1 (v.getD m.a.toNat (0, 0)).2 0 0 m.n1 m.n2 m.e m.g := by
          unfold aloneR
          rw [if_neg (fun h => h.1 hb), if_neg (fun h => h.1 hb), if_pos (by omega), s1, s2, s3, s4, kickS_zero]
        rw [e]
        have hpp := permB_of na (show withinB 0 0 1048576 = true by decide) hp.nn
        have hl := stat_leq hpp hp.e hp.g
        have hd := (stat_lens (v.getD m.a.toNat (0, 0)).1 (v.getD m.a.toNat (0, 0)).2 0 0 m.n1 m.n2 m.e m.g).2 hpp hp.e hp.g
        have := one_le (u := u m.a.toNat) (v := v.getD m.a.toNat (0, 0)) hd hl
        grind
      have hsum := sumTo_two (f := fun k => 2 * dotQ (u k) (aloneR m v (k : Int)) + (-1) * (sqQ (u k) + sqQ (v.getD k (0, 0)))) (show m.a.toNat ≠ m.a.toNat + 1 by omega) h1 v.length
      rw [if_pos (by omega)] at hsum
      refine Rat.le_trans hsum ?_
      (try simp only)
      split
      · generalize 2 * dotQ (u m.a.toNat) (aloneR m v (m.a.toNat : Int)) + (-1) * (sqQ (u m.a.toNat) + sqQ (v.getD m.a.toNat (0, 0))) = X at *
        generalize 2 * dotQ (u (m.a.toNat + 1)) (aloneR m v ((m.a.toNat + 1 : Nat) : Int)) + (-1) * (sqQ (u (m.a.toNat + 1)) + sqQ (v.getD (m.a.toNat + 1) (0, 0))) = Y at *
        grind
      · rw [Rat.add_zero]; exact h3
    · have hb2 : 0 ≤ m.b := by omega
      have nb := near_get hv hb2 hb1
      have hab := hp.ab
      have h1 : ∀ k : Nat, ¬ k = m.a.toNat → ¬ k = m.b.toNat → 2 * dotQ (u k) (aloneR m v (k : Int)) + (-1) * (sqQ (u k) + sqQ (v.getD k (0, 0))) ≤ 0 := fun k h1 h2 => hoth k (by omega) (by omega)
      have ea : aloneR m v (m.a.toNat : Int) = (pairR (v.getD m.a.toNat (0, 0)).1 (v.getD m.a.toNat (0, 0)).2 (v.getD m.b.toNat (0, 0)).1 (v.getD m.b.toNat (0, 0)).2 m.n1 m.n2 m.e).1 := by
        unfold aloneR
        rw [if_pos ⟨hb, by omega⟩]
      have eb : aloneR m v (m.b.toNat : Int) = (pairR (v.getD m.a.toNat (0, 0)).1 (v.getD m.a.toNat (0, 0)).2 (v.getD m.b.toNat (0, 0)).1 (v.getD m.b.toNat (0, 0)).2 m.n1 m.n2 m.e).2 := by
        unfold aloneR
        rw [if_neg (fun h => hab (by omega)), if_pos ⟨hb, by omega⟩]
      have hpp := permB_of na nb hp.nn
      have hl := pair_leq hpp hp.e
      obtain ⟨d1, d2⟩ := (pair_lens (v.getD m.a.toNat (0, 0)).1 (v.getD m.a.toNat (0, 0)).2 (v.getD m.b.toNat (0, 0)).1 (v.getD m.b.toNat (0, 0)).2 m.n1 m.n2 m.e).2 hpp hp.e
      have h2 := two_le (u := u m.a.toNat) (u' := u m.b.toNat) (v := v.getD m.a.toNat (0, 0)) (w := v.getD m.b.toNat (0, 0)) d1 d2 hl
      rw [← ea, ← eb] at h2
      have hsum := sumTo_two (f := fun k => 2 * dotQ (u k) (aloneR m v (k : Int)) + (-1) * (sqQ (u k) + sqQ (v.getD k (0, 0)))) (show m.a.toNat ≠ m.b.toNat by omega) h1 v.length
      rw [if_pos (by omega), if_pos (by omega)] at hsum
      refine Rat.le_trans hsum ?_
      (try simp only)
      generalize dotQ (u m.a.toNat) (aloneR m v (m.a.toNat : Int)) = X at *
      generalize dotQ (u m.b.toNat) (aloneR m v (m.b.toNat : Int)) = Y at *
      grind
  rw [sumTo_add, sumTo_mul, sumTo_mul, sumTo_add] at key
  grind
theorem putV_get {l : List Mt} {v : List V2} : ∀ {bs : List Int} {o : List V2}, (∀ b ∈ bs, 0 ≤ b ∧ b < o.length) → ∀ k : Nat, (putV l v bs o).getD k (0, 0) = if (k : Int) ∈ bs then newV l v k else o.getD k (0, 0)
  | [], o, _, k => by simp [putV]
  | b :: bs, o, h, k => by
    show (putV l v bs (o.set b.toNat (newV l v b))).getD k (0, 0) = _
    have hb := h b (by simp)
    rw [putV_get (fun x hx => by rw [List.length_set]; exact h x (List.mem_cons_of_mem _ hx))]
    by_cases h1 : (k : Int) ∈ bs
    · rw [if_pos h1, if_pos (List.mem_cons_of_mem _ h1)]
    · rw [if_neg h1]
      by_cases h2 : (k : Int) = b
      · subst h2
        rw [if_pos (by simp), List.getD_eq_getElem?_getD, List.getElem?_set, if_pos (by simp), if_pos (by omega)]
        rfl
      · rw [if_neg (by simp [h1, h2]), List.getD_eq_getElem?_getD, List.getElem?_set, if_neg (by omega), ← List.getD_eq_getElem?_getD]
theorem sum_const {α : Type} {L : List α} {g : α → Rat} {C : Rat} (h : ∀ m ∈ L, g m = C) : (L.map g).sum = ((L.length : Int) : Rat) * C := by
  induction L with
  | nil => show (0 : Rat) = ((0 : Int) : Rat) * C; rw [show ((0 : Int) : Rat) = 0 from rfl, Rat.zero_mul]
  | cons x L ih =>
    rw [List.map_cons, List.sum_cons, ih (fun y hy => h y (List.mem_cons_of_mem _ hy)), h x (by simp), List.length_cons]
    have e : (((L.length + 1 : Nat) : Int) : Rat) = ((L.length : Int) : Rat) + 1 := by
      rw [show ((L.length + 1 : Nat) : Int) = (L.length : Int) + 1 from rfl, Rat.intCast_add]; rfl
    rw [e]
    grind
/-- The energy after meetings with surfaces at rest is at most that before. -/
theorem res_energy {l : List Mt} {v : List V2} (hs : ∀ m ∈ l, Still m) (h : (resR l v).2.2 = 0) : enTo (resR l v).1 v.length ≤ enTo v v.length := by
  obtain ⟨h1, hv, hp⟩ := resR_ok h
  rw [resR_val h1 hv hp]
  simp only
  have hbs : ∀ b ∈ ballsE l v, 0 ≤ b ∧ b < v.length ∧ 1 ≤ (effL l v).length := fun b hb => balls_in hp hb
  have hmem : ∀ k : Nat, ¬ (k : Int) ∈ ballsE l v → ∀ m ∈ effL l v, ¬ (k : Int) = m.a ∧ ¬ (k : Int) = m.b := fun k hk m hm => by
    unfold ballsE at hk
    rw [setI_mem, mem_ballsL] at hk
    refine ⟨fun e => hk ⟨m, hm, ?_⟩, fun e => hk ⟨m, hm, ?_⟩⟩
    · split <;> simp [e]
    · rw [if_neg (by omega)]; simp [e]
  have hpe : ∀ m ∈ effL l v, PermM m v.length := fun m hm => hp m (List.mem_filter.1 hm).1
  have hse : ∀ m ∈ effL l v, Still m := fun m hm => hs m (List.mem_filter.1 hm).1
  have hget := putV_get (l := effL l v) (v := v) (o := v) (fun b hb => ⟨(hbs b hb).1, (hbs b hb).2.1⟩)
  generalize ballsE l v = bs at *
  generalize effL l v = L at *
  by_cases hn : L.length = 0
  · obtain rfl : bs = [] := by
      cases bs with
      | nil => rfl
      | cons b bs => have := (hbs b (by simp)).2.2; omega
    exact Int.le_refl _
  generalize putV L v bs v = o at *
  have hk : ∀ k, k < v.length → ((L.length : Int) : Rat) * sqQ (o.getD k (0, 0)) ≤ (L.map fun m => dotQ (o.getD k (0, 0)) (aloneR m v (k : Int))).sum := fun k hkl => by
    by_cases hb : (k : Int) ∈ bs
    · rw [hget k, if_pos hb]
      have := mean_dot (l := L.map fun m => aloneR m v (k : Int)) (fun r hr => by
        obtain ⟨m, hm, rfl⟩ := List.mem_map.1 hr
        exact (alone_ok (hpe m hm) hv (by omega) (by omega)).1.d) (by rw [List.length_map]; omega)
      rw [List.length_map, List.map_map] at this
      exact this
    · rw [hget k, if_neg hb]
      have e : ∀ m ∈ L, dotQ (v.getD k (0, 0)) (aloneR m v (k : Int)) = sqQ (v.getD k (0, 0)) := fun m hm => by
        obtain ⟨n1, n2⟩ := hmem k hb m hm
        have e : aloneR m v (k : Int) = ((v.getD k (0, 0)).1, (v.getD k (0, 0)).2, 1) := by
          unfold aloneR
          rw [if_neg (fun h => n1 h.2), if_neg (fun h => n2 h.2), if_neg n1]; rfl
        rw [e]
        exact dotQ_same _
      rw [sum_const e]
      exact Rat.le_refl
  have h2 := sumTo_le hk
  rw [sumTo_mul, sumTo_swap (fun m k => dotQ (o.getD k (0, 0)) (aloneR m v (k : Int)))] at h2
  have h3 : (L.map fun m => sumTo (fun k => dotQ (o.getD k (0, 0)) (aloneR m v (k : Int))) v.length).sum ≤ ((L.length : Int) : Rat) * ((sumTo (fun k => sqQ (o.getD k (0, 0))) v.length + sumTo (fun k => sqQ (v.getD k (0, 0))) v.length) / 2) := by
    have := sum_le (L := L.map fun m => sumTo (fun k => dotQ (o.getD k (0, 0)) (aloneR m v (k : Int))) v.length) (C := (sumTo (fun k => sqQ (o.getD k (0, 0))) v.length + sumTo (fun k => sqQ (v.getD k (0, 0))) v.length) / 2) (fun x hx => by
      obtain ⟨m, hm, rfl⟩ := List.mem_map.1 hx
      have := one_meeting (hpe m hm) (hse m hm) hv (fun k => o.getD k (0, 0))
      grind)
    rw [List.length_map] at this
    exact this
  have h4 := le_of_mul (castpos (show (0 : Int) < (L.length : Int) by omega)) (Rat.le_trans h2 h3)
  rw [enTo_cast, enTo_cast] at h4
  refine Rat.intCast_le_intCast.1 ?_
  grind
/-- What has changed. -/
theorem res_moved {l : List Mt} {v : List V2} (h : (resR l v).2.2 = 0) : (resR l v).2.1 = (List.range v.length).any (fun k => decide (¬ (resR l v).1.getD k (0, 0) = v.getD k (0, 0))) ∧ ∀ k : Nat, ¬ (resR l v).1.getD k (0, 0) = v.getD k (0, 0) → (k : Int) ∈ setI (ballsL l) := by
  obtain ⟨h1, hv, hp⟩ := resR_ok h
  rw [resR_val h1 hv hp]
  simp only
  have hbs : ∀ b ∈ ballsE l v, 0 ≤ b ∧ b < v.length ∧ 1 ≤ (effL l v).length := fun b hb => balls_in hp hb
  have hget := putV_get (l := effL l v) (v := v) (o := v) (fun b hb => ⟨(hbs b hb).1, (hbs b hb).2.1⟩)
  constructor
  · unfold chgV
    rw [Bool.eq_iff_iff, List.any_eq_true, List.any_eq_true]
    constructor
    · rintro ⟨b, hb, hx⟩
      have := hbs b hb
      refine ⟨b.toNat, List.mem_range.2 (by omega), ?_⟩
      rw [hget, show ((b.toNat : Nat) : Int) = b by omega, if_pos hb]
      exact hx
    · rintro ⟨k, hk, hx⟩
      rw [hget] at hx
      by_cases hb : (k : Int) ∈ ballsE l v
      · rw [if_pos hb] at hx
        exact ⟨k, hb, hx⟩
      · rw [if_neg hb] at hx
        simp at hx
  · intro k hk
    rw [hget] at hk
    by_cases hb : (k : Int) ∈ ballsE l v
    · unfold ballsE at hb
      rw [setI_mem, mem_ballsL] at hb
      rw [setI_mem, mem_ballsL]
      obtain ⟨m, hm, hx⟩ := hb
      exact ⟨m, (List.mem_filter.1 hm).1, hx⟩
    · rw [if_neg hb] at hk
      exact absurd rfl hk
theorem with_one {l : List Int} (h : l.Pairwise (fun x y => x < y)) {x : Int} (hx : x ∈ l) : l.filter (fun y => y == x) = [x] := by
  induction l with
  | nil => simp at hx
  | cons a l ih =>
    obtain ⟨h1, h2⟩ := List.pairwise_cons.1 h
    by_cases e : a = x
    · subst e
      rw [List.filter_cons, if_pos (by simp)]
      have : l.filter (fun y => y == a) = [] := by
        rw [List.filter_eq_nil_iff]
        intro b hb
        have := h1 b hb
        simp; omega
      rw [this]
    · rw [List.filter_cons, if_neg (by simpa using e)]
      exact ih h2 (by simpa [Ne.symm e] using hx)
end Go.Proofs.Ytgejdaincnclpaa
namespace Go.Proofs.Ytgejdaincnclpaa
open Go Go.RowKit
set_option linter.unusedVariables false
theorem resR_err {l : List Mt} {v : List V2} (h : ¬ (resR l v).2.2 = 0) : (resR l v).1 = [] ∧ (resR l v).2.1 = false := by
  unfold resR at *
  split
  · exact ⟨rfl, rfl⟩
  · rename_i h1
    rw [if_neg h1] at h
    split
    · rename_i h2
      rw [if_pos h2] at h
      exact absurd rfl h
    · exact ⟨rfl, rfl⟩
theorem clamp_bd (x : Int) : -65536 ≤ clampR x ∧ clampR x ≤ 65536 := by unfold clampR; omega
theorem put_near {l : List Mt} {v : List V2} : ∀ (bs : List Int) (o : List V2), o.all (nearB 1048576) = true → (putV l v bs o).all (nearB 1048576) = true
  | [], o, h => h
  | b :: bs, o, h => by
    refine put_near bs _ ?_
    rw [List.all_eq_true] at *
    intro x hx
    rcases List.mem_or_eq_of_mem_set hx with h' | rfl
    · exact h x h'
    · have h1 := clamp_bd (meanR (l.map fun m => aloneR m v b)).1
      have h2 := clamp_bd (meanR (l.map fun m => aloneR m v b)).2
      unfold newV nearB
      simp only [withinB, decide_eq_true_eq]
      omega
theorem res_near {l : List Mt} {v : List V2} (h : (resR l v).2.2 = 0) : (resR l v).1.all (nearB 1048576) = true ∧ (resR l v).1.length = v.length := by
  obtain ⟨h1, hv, hp⟩ := resR_ok h
  rw [resR_val h1 hv hp]
  exact ⟨put_near _ _ hv, putV_len _ _ _ _⟩
theorem OwnM.kept {W W' : World} {base : Nat} {A : Option Addr} {c : Nat} {l : List Mt} {row : Option Nat} (h : OwnM W base A c l) (hg : W.grownBy W' row) (hne : Value.ownBlock (.slice A l.length c) = none ∨ Value.ownBlock (.slice A l.length c) ≠ row) : OwnM W' base A c l := World.ownsRow.kept h hg hne
/-- Two rows that lie in different blocks. -/
def Dj (a b : Value) : Prop := a.ownBlock = none ∨ a.ownBlock ≠ b.ownBlock
theorem Dj.symm {a b : Value} (h : Dj a b) : Dj b a := by
  unfold Dj at *
  rcases h with h | h
  · cases hb : b.ownBlock with
    | none => exact .inl rfl
    | some k => right; rw [h]; simp
  · exact .inr fun e => h e.symm
theorem OwnW.nil (w : World) (base : Nat) : OwnW w base none 0 [] := World.ownsRow_nil _ _ _ _
theorem OwnW.fresh {w : World} {base : Nat} {A : Option Addr} {c : Nat} {l : List V2} (h : OwnW w base A c l) : ∀ k, Value.ownBlock (.slice A l.length c) = some k → base ≤ k := fun k hk => (World.ownsRow.lt h k hk).1
end Go.Proofs.Ytgejdaincnclpaa
namespace Go.Proofs.Ytgejdaincnclpaa
open Go Go.RowKit
set_option linter.unusedVariables false
theorem filter_take_suc {l : List Int} {p : Int → Bool} {k : Nat} {x : Int} (h : l[k]? = some x) : (l.take (k + 1)).filter p = (l.take k).filter p ++ (if p x = true then [x] else []) := by
  rw [List.take_add_one, h, List.filter_append]
  congr 1
  simp only [Option.toList_some, List.filter_cons, List.filter_nil]
theorem filter_take_len {l : List Int} {p : Int → Bool} {k : Nat} : ((l.take k).filter p).length ≤ k := by
  have h1 := List.length_filter_le p (l.take k)
  rw [List.length_take] at h1
  omega
set_option maxRecDepth 100000 in
set_option maxHeartbeats 8000000 in
theorem with16_any (l : List Int) (n : Int) (A : Option Addr) (c : Nat) (w : World) (hA : IAt w A l) (hl : l.length ≤ 100000) :
    Calls Try.prog 12 #[.slice A l.length c, .int .i64 n] w (IOut (l.filter (fun y => y == n)) w) := by
  have HA := Lib.hid hA
  clear hA
  go_enter Try.func12, Try.ntmps12; (try simp only [List.append_eq, List.cons_append, List.nil_append])
  go_wp2_with fail
  go_loopw [5, 6] (fun t5 t6 wr => ∃ (k : Nat) (B : Option Addr) (d : Nat), k ≤ l.length ∧ t6 = .int .i64 k ∧ t5 = .slice B ((l.take k).filter (fun y => y == n)).length d ∧ Hid (OwnI wr w.heap.size B d ((l.take k).filter (fun y => y == n)) ∧ Below w.heap.size w wr)) (fun _ t6 _ => l.length - (intOf t6).toNat)
  case atStart => exact ⟨0, none, 0, by omega, rfl, rfl, Lib.hid ⟨OwnI.nil _ _, Below.refl _ _⟩⟩
  case round =>
    obtain ⟨k, B, d, hk, rfl, rfl, HI⟩ := hrel
    have HO := Lib.hid HI.out.1
    have HB := Lib.hid HI.out.2
    have hz_wr := HB.out.size
    have i1 : (0 : Int) ≤ (k : Int) := by omega
    have hlk := filter_take_len (l := l) (p := fun y => y == n) (k := k)
    by_cases hlt : k < l.length
    · obtain ⟨x, hx⟩ : ∃ x, l[k]? = some x := ⟨l[k], by simp⟩
      obtain ⟨g, o, rfl, hg, a0⟩ := (HA.out.below HB.out (Nat.le_refl _)) k _ hx
      have HT := Lib.hid (filter_take_suc (p := fun y => y == n) hx)
      generalize (l.take k).filter (fun y => y == n) = L at *
      have i2 : (k : Int) < (l.length : Int) := by omega
      clear hx HI
      by_cases hm : x = n
      · subst hm
        have hxx : (x == x) = true := by simp
        go_wp2_with (at_builtin; go_must (refine wpList_append_one rfl _ _ 27 3 _ 1 8 rfl Try.underlying27 infI rfl (by decide) (by decide) w.heap.size _ L.length (L.map (Value.int .i64)) [.int .i64 x] rfl (show OwnI _ w.heap.size B d L by ((repeat (first | (with_reducible exact HO.out) | (with_reducible refine OwnI.low ?_ ?_ _) | (with_reducible refine OwnI.alloc ?_ _))) <;> first | omega | (simp; done) | (simp <;> omega))) _ 1 rfl rfl (cell1 (by go_simp)) (by simp [Value.oneCell']) (by omega) (by simp; omega) ?_))
        intro v1 w1 hown1 hg1 _
        obtain ⟨B1, d1, rfl, ho1⟩ := owni_snoc hown1
        have HO1 := Lib.hid ho1
        have HB1 := Lib.hid ((show Below w.heap.size w _ from (HB.out.alloc hz_wr _)).grown hg1 (by simp; omega) (HO.out.fresh))
        clear hg1 hown1 ho1
        go_wp2_with fail
        go_roundw
        case rel => exact ⟨k + 1, B1, d1, by omega, by go_num, by rw [HT.out, if_pos (by simp)], Lib.hid ⟨by rw [HT.out, if_pos (by simp)]; exact HO1.out, HB1.out⟩⟩
        case measure => simp [intOf]; omega
      · have hmb : (x == n) = false := by rw [beq_eq_false_iff_ne]; exact hm
        go_wp2_with fail
        go_roundw
        case rel => exact ⟨k + 1, B, d, by omega, by go_num, by rw [HT.out, if_neg (by simpa using hm), List.append_nil], Lib.hid ⟨by rw [HT.out, if_neg (by simpa using hm), List.append_nil]; exact HO.out, HB.out⟩⟩
        case measure => simp [intOf]; omega
    · obtain rfl : k = l.length := by omega
      rw [List.take_length] at *
      go_wp2_with fail
      refine bodyPost_ret (v := .slice B (l.filter (fun y => y == n)).length d) (by (try simp only [results, Try.results12]); (try go_simp)) rfl ⟨?_, ?_⟩
      · exact HB.out
      · exact ⟨B, d, rfl, HO.out⟩
end Go.Proofs.Ytgejdaincnclpaa
namespace Go.Proofs.Ytgejdaincnclpaa
open Go Go.RowKit
set_option linter.unusedVariables false
section
variable {P : Program} {ops : Array Oper} {md : Region.Mode} {N : Nat} {W0 : World}
def waitsJS (md : Region.Mode) (ops : Array Oper) : Nat → Nat → Nat → Bool
  | 0, _, _ => false
  | f + 1, t, i => match ops[t]? with
    | some o => (o.after.any fun e => Region.binds md e && e.on == i) || o.after.any fun e => Region.binds md e && waitsJS md ops f e.on i
    | none => false
/-- What is listed lists all that it waits for. -/
def DCS (md : Region.Mode) (ops : Array Oper) (listed : Array Bool) : Prop := ∀ j o, ops[j]? = some o → listed.getD j false = true → ∀ e ∈ o.after, Region.binds md e = true → listed.getD e.on false = true
def dcBS (md : Region.Mode) (ops : Array Oper) (listed : Array Bool) : Bool := (List.range ops.size).all fun j => match ops[j]? with
  | some o => !listed.getD j false || o.after.all fun e => !Region.binds md e || listed.getD e.on false
  | none => true
theorem dcB_specS {listed : Array Bool} (h : dcBS md ops listed = true) : DCS md ops listed := fun j o hj hl e he hb => by
  simp only [dcBS, List.all_eq_true, List.mem_range] at h
  have h1 := h j (Array.getElem?_eq_some_iff.1 hj).1
  simp only [hj, hl, Bool.not_true, Bool.false_or] at h1
  have h2 := Array.all_eq_true'.1 h1 e he
  simpa [hb] using h2
theorem getD_set_monoS {listed : Array Bool} {i k : Nat} (h : listed.getD k false = true) : (listed.setIfInBounds i true).getD k false = true := by
  simp only [Array.getD_eq_getD_getElem?, Array.getElem?_setIfInBounds] at *
  split
  · split <;> simp_all
  · exact h
theorem DCS.set {listed : Array Bool} {i : Nat} (h : DCS md ops listed) (hr : i ∈ Region.ready md ops listed) : DCS md ops (listed.setIfInBounds i true) := fun j o hj hl e he hb => by
  by_cases hji : j = i
  · subst hji
    obtain ⟨_, o', ho', hall⟩ := mem_ready.1 hr
    rw [hj] at ho'; injection ho' with ho'; subst ho'
    exact getD_set_monoS (hall e he hb)
  · refine getD_set_monoS (h j o hj ?_ e he hb)
    simp only [Array.getD_eq_getD_getElem?, Array.getElem?_setIfInBounds] at *
    rw [if_neg (fun e => hji e.symm)] at hl
    exact hl
theorem waits_specS {listed : Array Bool} (hdc : DCS md ops listed) : ∀ (f t i : Nat), waitsJS md ops f t i = true → (∀ o, ops[t]? = some o → ∀ e ∈ o.after, Region.binds md e = true → listed.getD e.on false = true) → listed.getD i false = true
  | 0, t, i, h, _ => by simp [waitsJS] at h
  | f + 1, t, i, h, hd => by
    unfold waitsJS at h
    split at h
    · rename_i o ho
      rw [Bool.or_eq_true] at h
      rcases h with h | h
      · obtain ⟨e, he, hb⟩ := Array.any_eq_true'.1 h
        simp only [Bool.and_eq_true, beq_iff_eq] at hb
        have := hd o ho e he hb.1
        rwa [hb.2] at this
      · obtain ⟨e, he, hb⟩ := Array.any_eq_true'.1 h
        simp only [Bool.and_eq_true] at hb
        exact waits_specS hdc f e.on i hb.2 (fun o' ho' e' he' hb' => hdc e.on o' ho' (hd o ho e he hb.1) e' he' hb')
    · cases h
def tailBJS (md : Region.Mode) (ops : Array Oper) (n : List Nat) : Bool :=
  Region.noSelect ops && (List.range ops.size).all fun t => !n.contains t || match ops[t]? with
    | some _ => (List.range ops.size).all fun i => n.contains i || waitsJS md ops ops.size t i
    | none => true
theorem tailB_specJS {n : List Nat} {t i : Nat} {listed : Array Bool} (h : tailBJS md ops n = true) (hdc : DCS md ops listed) (ht : t ∈ Region.ready md ops listed) (hs : i < ops.size) (hi : n.contains i = false) (hun : listed.getD i true = false) : n.contains t = false := by
  cases hc : n.contains t
  · rfl
  · exfalso
    obtain ⟨_, o, ho, hall⟩ := mem_ready.1 ht
    simp only [tailBJS, Bool.and_eq_true, List.all_eq_true, List.mem_range] at h
    have h1 := h.2 t (Array.getElem?_eq_some_iff.1 ho).1
    simp only [ho, hc, Bool.not_true, Bool.false_or, List.all_eq_true, List.mem_range] at h1
    have h2 := h1 i hs
    rw [hi, Bool.false_or] at h2
    have h3 := waits_specS hdc _ _ _ h2 (fun o' ho' e he hb => by rw [ho] at ho'; injection ho' with ho'; subst ho'; exact hall e he hb)
    rw [getD_both hun] at h3
    cases h3
def seqJS (md : Region.Mode) (ops : Array Oper) : List Nat → Array Bool → Bool
  | [], listed => (Region.ready md ops listed).isEmpty
  | k :: js, listed => decide (Region.ready md ops listed = [k]) && seqJS md ops js (listed.setIfInBounds k true)
theorem wpAny_of_seqJS {Q' : Exit → Act → World → Prop} : ∀ (js : List Nat) (listed : Array Bool) (a : Act) (w : World), (∀ j ∈ js, j < ops.size) →
    seqJS md ops js listed = true → wpList P ops Q' (js.filterMap (fun i => ops[i]?)) a w → wpAny P md ops Q' js.length listed a w
  | [], listed, a, w, _, hB, h => ⟨by simpa [seqJS] using hB, h⟩
  | k :: js, listed, a, w, hl, hB, h => by
    have hk : k < ops.size := hl k (by simp)
    have h0 : ops[k]? = some ops[k] := Array.getElem?_eq_some_iff.2 ⟨hk, rfl⟩
    simp only [seqJS, Bool.and_eq_true, decide_eq_true_eq] at hB
    refine ⟨fun h1 => (by rw [hB.1] at h1; cases h1), fun i hi => ?_⟩
    rw [hB.1] at hi
    have hik : i = k := by simpa using hi
    subst hik
    rw [List.filterMap_cons, h0] at h
    have hw : wpOp P ops Q' i (wpList P ops Q' (js.filterMap (fun i => ops[i]?))) a w := by unfold wpOp; simp only [h0]; exact h
    exact wpOp_mono (fun a' w' h' => wpAny_of_seqJS js _ a' w' (fun j hj => hl j (by simp [hj])) hB.2 h') hw
theorem seqB_memJS {n : List Nat} {listed : Array Bool} (h : seqJS md ops n listed = true) : ∀ j ∈ Region.ready md ops listed, n.contains j = true := by
  cases n with
  | nil => intro j hj; simp only [seqJS, List.isEmpty_iff] at h; rw [h] at hj; cases hj
  | cons k js =>
    intro j hj
    simp only [seqJS, Bool.and_eq_true, decide_eq_true_eq] at h
    rw [h.1] at hj
    have : j = k := by simpa using hj
    subst this
    simp
def isFreshS (o : Oper) : Bool := match o.op with | .alloc _ => true | .buildSlice _ _ _ => true | _ => false
def freshVS (o : Oper) (g : Nat) : Value := match o.op with | .buildSlice _ n _ => .slice (some ⟨g, 0, none⟩) n n | _ => .pointer (some ⟨g, 0, none⟩)
def FreshQS (P : Program) (ops : Array Oper) (o : Oper) (a : Act) (ob : Obj) : Prop :=
  Region.wanted o (yielded ops a.tmps) = true ∧ ∀ W, (execOp a.eval o).run P W = .ok (.value (freshVS o W.heap.size)) (W.alloc ob)
theorem freshQ_obS {o : Oper} {a a' : Act} {ob ob' : Obj} (h : FreshQS P ops o a ob) (h' : FreshQS P ops o a' ob') (he : execOp a'.eval o = execOp a.eval o) (W : World) : ob = ob' := by
  have h1 := h.2 W
  have h2 := h'.2 W
  rw [he, h1] at h2
  have h3 : W.alloc ob = W.alloc ob' := by injection h2
  have h4 := heap_alloc_new W ob
  rw [h3, heap_alloc_new W ob'] at h4
  injection h4 with h4
  exact h4.symm
def wfQS (P : Program) (ops : Array Oper) (N : Nat) (W0 : World) (i : Nat) (K : GK) (F : World → Prop) (G : List (Nat × Obj)) (a : Act) : Prop :=
  match ops[i]? with
  | none => False
  | some o => if isFreshS o = true then ∃ ob, FreshQS P ops o a ob ∧ ∀ g, N ≤ g → (∀ p ∈ G, p.1 ≠ g) → K F ((g, ob) :: G) (a.put o.dst (freshVS o g))
      else (∃ v, YieldsH P ops N W0 o v a ∧ K F G (a.put o.dst v)) ∨
      WildX P ops N W0 o a K F G ∨
      CallX P ops N W0 o a K F G
/-- There is a world of which this is known. -/
def LiveS (N : Nat) (W0 : World) (F : World → Prop) (G : List (Nat × Obj)) : Prop := Cl F ∧ ∃ W, F W ∧ SG N W0 G W
theorem LiveS.weak {F : World → Prop} {G : List (Nat × Obj)} {p : Nat × Obj} (h : LiveS N W0 F (p :: G)) : LiveS N W0 F G := ⟨h.1, h.2.choose, h.2.choose_spec.1, h.2.choose_spec.2.weak⟩
theorem LiveS.same {F : World → Prop} {G G' : List (Nat × Obj)} (h : ∀ p, p ∈ G ↔ p ∈ G') (hl : LiveS N W0 F G) : LiveS N W0 F G' := ⟨hl.1, hl.2.choose, hl.2.choose_spec.1, hl.2.choose_spec.2.same h⟩
theorem LiveS.grow {F : World → Prop} {G : List (Nat × Obj)} (h : LiveS N W0 F G) (ob : Obj) : ∃ g, N ≤ g ∧ (∀ p ∈ G, p.1 ≠ g) ∧ LiveS N W0 F ((g, ob) :: G) := by
  obtain ⟨hC, W, hF, hS⟩ := h
  exact ⟨W.heap.size, hS.1.1, fun p hp e => by have := hS.size hp; omega, hC, W.alloc ob, hC _ _ hF ((Below.refl _ _).alloc (Nat.le_refl _) _), hS.alloc ob⟩
theorem givesX_liveS {W : World} {K : Value → (World → Prop) → Prop} : ∀ {r : Result Next}, givesX P W K r → ∃ v F' w'', Below W.heap.size W w'' ∧ F' w'' ∧ Cl F' ∧ K v F' := by
  intro r hr
  match r, hr with
  | .ok (.value u) w', ⟨F, a, b, c, d⟩ => exact ⟨_, _, _, a, b, c, d⟩
  | .ok .skip w', ⟨F, a, b, c, d⟩ => exact ⟨_, _, _, a, b, c, d⟩
  | .ok (.enter f args) w', hr =>
    obtain ⟨e, w'', fr, ⟨v, F, e1, a, b, c, d⟩, _⟩ := hr []
    exact ⟨_, _, _, a, b, c, d⟩
def wpQS (P : Program) (md : Region.Mode) (ops : Array Oper) (N : Nat) (W0 : World) (n : List Nat) (L : GK) : Nat → LK
  | 0, listed, F, G, a => LiveS N W0 F G → seqJS md ops n listed = true ∧ L F G a
  | f + 1, listed, F, G, a => LiveS N W0 F G → Region.ready md ops listed ≠ [] ∧ ∀ i ∈ Region.ready md ops listed, wfQS P ops N W0 i (wpQS P md ops N W0 n L f (listed.setIfInBounds i true)) F G a
theorem wpQ_liveS {n : List Nat} {L : GK} {f : Nat} {listed : Array Bool} {F : World → Prop} {G : List (Nat × Obj)} {a : Act} (h : LiveS N W0 F G → wpQS P md ops N W0 n L f listed F G a) : wpQS P md ops N W0 n L f listed F G a := by
  cases f
  · exact fun hl => h hl hl
  · exact fun hl => h hl hl
theorem wfQ_monoS {i : Nat} {a : Act} {F : World → Prop} {G : List (Nat × Obj)} {K K' : GK} (h : ∀ F G a, K F G a → K' F G a) (hh : wfQS P ops N W0 i K F G a) : wfQS P ops N W0 i K' F G a := by
  unfold wfQS at *
  split
  · rename_i ho; simp only [ho] at hh
  · rename_i o ho
    simp only [ho] at hh
    split at hh
    · rename_i ha
      rw [if_pos ha]
      obtain ⟨ob, hf, hk⟩ := hh
      exact ⟨ob, hf, fun g hN hg => h _ _ _ (hk g hN hg)⟩
    · rename_i ha
      rw [if_neg ha]
      rcases hh with ⟨v, hy, hk⟩ | ⟨hw, hx⟩ | ⟨hw, hx⟩
      · exact .inl ⟨v, hy, h _ _ _ hk⟩
      · exact .inr (.inl ⟨hw, fun W hF hS => givesW_mono (fun v F' G' hk => h _ _ _ hk) _ (hx W hF hS)⟩)
      · exact .inr (.inr ⟨hw, fun W hF hS => givesX_mono (fun v F' hk => h _ _ _ hk) _ (hx W hF hS)⟩)
theorem wfQ_putS {j : Nat} {oi oj : Oper} {v : Value} (hj : ops[j]? = some oj) (hap : oi.apart ops oj = true)
    (hsi : ∀ cs b, oi.op ≠ .select cs b) (hsj : ∀ cs b, oj.op ≠ .select cs b) {K : GK} {F : World → Prop} {G : List (Nat × Obj)} {a : Act}
    (hy : YieldsH P ops N W0 oi v a) (h : wfQS P ops N W0 j K F G (a.put oi.dst v)) :
    wfQS P ops N W0 j (fun F' G' a' => YieldsH P ops N W0 oi v a' ∧ K F' G' (a'.put oi.dst v)) F G a := by
  obtain ⟨h1, h2, h3⟩ := Oper.apart_spec hap
  have keep : ∀ u, YieldsH P ops N W0 oi v (a.put oj.dst u) := fun u => hy.of_same (execOp_put oi hsi a oj.dst u h3) (wanted_put oi a oj.dst u h3)
  have e1 := execOp_put oj hsj a oi.dst v h1
  have e2 := wanted_put oj a oi.dst v h1
  unfold wfQS at *
  simp only [hj] at *
  split at h
  · rename_i ha
    rw [if_pos ha]
    obtain ⟨ob, hf, hk⟩ := h
    refine ⟨ob, ?_, fun g hN hg => ⟨keep _, by rw [← Act.put_comm a v _ h2]; exact hk g hN hg⟩⟩
    unfold FreshQS at *; rw [e1, e2] at hf; exact hf
  · rename_i ha
    rw [if_neg ha]
    rcases h with ⟨u, hu, hk⟩ | ⟨hw, hx⟩ | ⟨hw, hx⟩
    · exact .inl ⟨u, hu.of_same e1.symm e2.symm, keep u, by rw [← Act.put_comm a v u h2]; exact hk⟩
    · refine .inr (.inl ⟨by rw [← e2]; exact hw, fun W hF hS => ?_⟩)
      have := hx W hF hS
      rw [e1] at this
      exact givesW_mono (fun u F' G' hk => ⟨keep u, by rw [← Act.put_comm a v u h2]; exact hk⟩) _ this
    · refine .inr (.inr ⟨by rw [← e2]; exact hw, fun W hF hS => ?_⟩)
      have := hx W hF hS
      rw [e1] at this
      exact givesX_mono (fun u F' hk => ⟨keep u, by rw [← Act.put_comm a v u h2]; exact hk⟩) _ this
theorem wfQ_sameS {i : Nat} {a : Act} {F : World → Prop} {G G' : List (Nat × Obj)} {K : GK} (hK : LInv K) (h : ∀ p, p ∈ G ↔ p ∈ G') (hh : wfQS P ops N W0 i K F G a) : wfQS P ops N W0 i K F G' a := by
  unfold wfQS at *
  split
  · rename_i ho; simp only [ho] at hh
  · rename_i o ho
    simp only [ho] at hh
    split at hh
    · rename_i ha
      rw [if_pos ha]
      obtain ⟨ob, hf, hk⟩ := hh
      exact ⟨ob, hf, fun g hN hg => hK _ _ _ _ (same_cons h _) (hk g hN (fun p hp => hg p ((h p).1 hp)))⟩
    · rename_i ha
      rw [if_neg ha]
      rcases hh with ⟨v, hy, hk⟩ | ⟨hw, hx⟩ | ⟨hw, hx⟩
      · exact .inl ⟨v, hy, hK _ _ _ _ h hk⟩
      · exact .inr (.inl ⟨hw, fun W hF hS => hx W hF (hS.same (fun p => (h p).symm))⟩)
      · exact .inr (.inr ⟨hw, fun W hF hS => givesX_mono (fun v F' hk => hK _ _ _ _ h hk) _ (hx W hF (hS.same (fun p => (h p).symm)))⟩)
theorem wpQ_sameS {n : List Nat} {L : GK} (hL : LInv L) : ∀ (f : Nat) (listed : Array Bool), LInv (wpQS P md ops N W0 n L f listed)
  | 0, listed => fun F G G' a h hh hl => ⟨(hh (hl.same (fun p => (h p).symm))).1, hL _ _ _ _ h (hh (hl.same (fun p => (h p).symm))).2⟩
  | f + 1, listed => fun F G G' a h hh hl => ⟨(hh (hl.same (fun p => (h p).symm))).1, fun i hi => wfQ_sameS (wpQ_sameS hL f _) h ((hh (hl.same (fun p => (h p).symm))).2 i hi)⟩
theorem wpQ_firstS {i : Nat} {n : List Nat} {oi : Oper} {v : Value} {L : GK} (hT : tailBJS md ops n = true) (hin : n.contains i = false) (hi : ops[i]? = some oi) (ha : isFreshS oi = false) :
    ∀ (f : Nat) (listed : Array Bool) (F : World → Prop) (G : List (Nat × Obj)) (a : Act),
      DCS md ops listed → (∀ j oj, ops[j]? = some oj → j ≠ i → listed.getD j true = false → (∀ e ∈ oj.after, Region.binds md e = true → e.on ≠ i) → oi.apart ops oj = true) →
      i ∈ Region.ready md ops listed → YieldsH P ops N W0 oi v a →
      wpQS P md ops N W0 n L f (listed.setIfInBounds i true) F G (a.put oi.dst v) → wpQS P md ops N W0 n L (f + 1) listed F G a := by
  have hsel := Region.noSelect_spec (by have := hT; unfold tailBJS at this; rw [Bool.and_eq_true] at this; exact this.1)
  have base : ∀ (F : World → Prop) (G : List (Nat × Obj)) (a : Act), YieldsH P ops N W0 oi v a → ∀ K : GK, K F G (a.put oi.dst v) → wfQS P ops N W0 i K F G a := by
    intro F G a hy K H
    unfold wfQS
    simp only [hi]
    rw [if_neg (by rw [ha]; exact Bool.false_ne_true)]
    exact .inl ⟨v, hy, H⟩
  intro f
  induction f with
  | zero =>
    intro listed F G a hdc hfree hr hy H hl
    have hun := (mem_ready.1 hr).1
    refine ⟨fun h => (by rw [h] at hr; cases hr), fun j hj => ?_⟩
    by_cases hji : j = i
    · subst hji
      exact base _ _ _ hy _ H
    · have h1 := seqB_memJS (H hl).1 j (ready_mono hj hji)
      have h2 := tailB_specJS hT hdc hj (Array.getElem?_eq_some_iff.1 hi).1 hin hun
      rw [h1] at h2; cases h2
  | succ f ih =>
    intro listed F G a hdc hfree hr hy H hl
    have hun := (mem_ready.1 hr).1
    refine ⟨fun h => (by rw [h] at hr; cases hr), fun j hj => ?_⟩
    by_cases hji : j = i
    · subst hji
      exact base _ _ _ hy _ H
    · have h1 := (H hl).2 j (ready_mono hj hji)
      obtain ⟨hjun, oj, hoj, hall⟩ := mem_ready.1 hj
      have hnot : ∀ e ∈ oj.after, Region.binds md e = true → e.on ≠ i := fun e he hb heq => by
        have h1 := hall e he hb
        rw [heq, getD_both hun] at h1
        cases h1
      have h2 := wfQ_putS hoj (hfree j oj hoj hji hjun hnot) (fun cs b => hsel i oi cs b hi) (fun cs b => hsel j oj cs b hoj) hy h1
      have hfree' : ∀ k ok, ops[k]? = some ok → k ≠ i → (listed.setIfInBounds j true).getD k true = false →
          (∀ e ∈ ok.after, Region.binds md e = true → e.on ≠ i) → oi.apart ops ok = true := fun k ok hk hki hun hno => by
        refine hfree k ok hk hki ?_ hno
        by_cases hjk : j = k
        · subst hjk; exact hjun
        · rw [getD_set_ne true hjk] at hun; exact hun
      refine wfQ_monoS (fun F' G' a' h3 => ih (listed.setIfInBounds j true) F' G' a' (hdc.set hj) hfree' (ready_mono hr (Ne.symm hji)) h3.1 ?_) h2
      rw [Array.setIfInBounds_comm _ _ hji]
      exact h3.2
/-- Beside i new blocks and rows alone may come up, till i is done. -/
def onlyQS (md : Region.Mode) (ops : Array Oper) (i : Nat) : Nat → Array Bool → Bool
  | 0, listed => decide (Region.ready md ops listed = [i])
  | f + 1, listed => (Region.ready md ops listed).contains i && (Region.ready md ops listed).all fun j => j == i || match ops[i]?, ops[j]? with
      | some oi, some oj => isFreshS oj && oi.apart ops oj && onlyQS md ops i f (listed.setIfInBounds j true)
      | _, _ => false
theorem FreshQS.back {oi oj : Oper} {a : Act} {v : Value} {ob : Obj} (hsj : ∀ cs b, oj.op ≠ .select cs b) (hap : oi.apart ops oj = true) (h : FreshQS P ops oj (a.put oi.dst v) ob) : FreshQS P ops oj a ob := by
  obtain ⟨p1, p2, p3⟩ := Oper.apart_spec hap
  unfold FreshQS at *
  rw [execOp_put oj hsj a oi.dst v p1, wanted_put oj a oi.dst v p1] at h
  exact h
theorem wpQ_callfirstS {i : Nat} {n : List Nat} {oi : Oper} {L : GK} (hsel : ∀ (j : Nat) (o : Oper) cs b, ops[j]? = some o → o.op ≠ .select cs b) (hi : ops[i]? = some oi) (hai : isFreshS oi = false) :
    ∀ (f : Nat) (listed : Array Bool) (F : World → Prop) (G : List (Nat × Obj)) (a : Act), onlyQS md ops i f listed = true →
      CallX P ops N W0 oi a (wpQS P md ops N W0 n L f (listed.setIfInBounds i true)) F G →
      wpQS P md ops N W0 n L (f + 1) listed F G a := by
  intro f
  induction f with
  | zero =>
    intro listed F G a hB hx hl
    simp only [onlyQS, decide_eq_true_eq] at hB
    refine ⟨fun h => (by rw [h] at hB; cases hB), fun j hj => ?_⟩
    rw [hB] at hj
    obtain rfl : j = i := by simpa using hj
    unfold wfQS
    simp only [hi]
    rw [if_neg (by rw [hai]; exact Bool.false_ne_true)]
    exact .inr (.inr hx)
  | succ f ih =>
    intro listed F G a hB hx hl
    simp only [onlyQS, Bool.and_eq_true, List.all_eq_true] at hB
    obtain ⟨hr, hall⟩ := hB
    have hr : i ∈ Region.ready md ops listed := by simpa using hr
    refine ⟨fun h => (by rw [h] at hr; cases hr), fun j hj => ?_⟩
    by_cases hji : j = i
    · subst hji
      unfold wfQS
      simp only [hi]
      rw [if_neg (by rw [hai]; exact Bool.false_ne_true)]
      exact .inr (.inr hx)
    · have h1 := hall j hj
      obtain ⟨hjun, oj, hoj, _⟩ := mem_ready.1 hj
      simp only [hi, hoj, Bool.or_eq_true, beq_iff_eq, hji, false_or, Bool.and_eq_true] at h1
      obtain ⟨⟨haj, hap⟩, hon⟩ := h1
      obtain ⟨p1, p2, p3⟩ := Oper.apart_spec hap
      have hsj := fun cs b => hsel j oj cs b hoj
      obtain ⟨ob, hfr⟩ : ∃ ob, FreshQS P ops oj a ob := by
        obtain ⟨hC, W, hF, hS⟩ := hl
        obtain ⟨v, F', w'', hb, hF', hC', hk⟩ := givesX_liveS (hx.2 W hF hS)
        have h3 := (hk ⟨hC.and hC', w'', ⟨hC _ _ hF hb, hF'⟩, hS.below hb⟩).2 j (ready_mono hj hji)
        unfold wfQS at h3
        simp only [hoj] at h3
        rw [if_pos haj] at h3
        obtain ⟨ob', hf', _⟩ := h3
        exact ⟨ob', hf'.back hsj hap⟩
      unfold wfQS
      simp only [hoj]
      rw [if_pos haj]
      refine ⟨ob, hfr, fun g hN hG => ih (listed.setIfInBounds j true) F ((g, ob) :: G) _ hon ⟨?_, fun W hF hS => ?_⟩⟩
      · rw [wanted_put oi a oj.dst _ p3]; exact hx.1
      · have h2 := hx.2 W hF hS.weak
        rw [execOp_put oi (fun cs b => hsel i oi cs b hi) a oj.dst _ p3]
        refine givesX_mono (fun v F' hk => wpQ_liveS fun hl' => ?_) _ h2
        have h3 := (hk hl'.weak).2 j (ready_mono hj hji)
        unfold wfQS at h3
        simp only [hoj] at h3
        rw [if_pos haj] at h3
        obtain ⟨ob', hf', hk'⟩ := h3
        have hobe : ob = ob' := freshQ_obS hfr (hf'.back hsj hap) rfl W
        subst hobe
        have h4 := hk' g hN hG
        rw [Array.setIfInBounds_comm _ _ (Ne.symm hji), Act.put_comm a _ v (fun d hd => fun h => p2 d h hd)] at *
        exact h4
theorem wpQ_freshfirstS {i : Nat} {n : List Nat} {oi : Oper} {L : GK} (hL : LInv L) (hsel : ∀ (j : Nat) (o : Oper) cs b, ops[j]? = some o → o.op ≠ .select cs b) (hi : ops[i]? = some oi) (hai : isFreshS oi = true) (ob : Obj) :
    ∀ (f : Nat) (listed : Array Bool) (F : World → Prop) (G : List (Nat × Obj)) (a : Act), onlyQS md ops i f listed = true → FreshQS P ops oi a ob →
      (∀ g, N ≤ g → (∀ p ∈ G, p.1 ≠ g) → wpQS P md ops N W0 n L f (listed.setIfInBounds i true) F ((g, ob) :: G) (a.put oi.dst (freshVS oi g))) →
      wpQS P md ops N W0 n L (f + 1) listed F G a := by
  have here : ∀ (K : GK) (F : World → Prop) (G : List (Nat × Obj)) (a : Act), FreshQS P ops oi a ob → (∀ g, N ≤ g → (∀ p ∈ G, p.1 ≠ g) → K F ((g, ob) :: G) (a.put oi.dst (freshVS oi g))) → wfQS P ops N W0 i K F G a := by
    intro K F G a hfr hk
    unfold wfQS
    simp only [hi]
    rw [if_pos hai]
    exact ⟨ob, hfr, hk⟩
  intro f
  induction f with
  | zero =>
    intro listed F G a hB hfr hx hl
    simp only [onlyQS, decide_eq_true_eq] at hB
    refine ⟨fun h => (by rw [h] at hB; cases hB), fun j hj => ?_⟩
    rw [hB] at hj
    obtain rfl : j = i := by simpa using hj
    exact here _ _ _ _ hfr hx
  | succ f ih =>
    intro listed F G a hB hfr hx hl
    simp only [onlyQS, Bool.and_eq_true, List.all_eq_true] at hB
    obtain ⟨hr, hall⟩ := hB
    have hr : i ∈ Region.ready md ops listed := by simpa using hr
    refine ⟨fun h => (by rw [h] at hr; cases hr), fun j hj => ?_⟩
    by_cases hji : j = i
    · subst hji; exact here _ _ _ _ hfr hx
    · have h1 := hall j hj
      obtain ⟨hjun, oj, hoj, _⟩ := mem_ready.1 hj
      simp only [hi, hoj, Bool.or_eq_true, beq_iff_eq, hji, false_or, Bool.and_eq_true] at h1
      obtain ⟨⟨haj, hap⟩, hon⟩ := h1
      obtain ⟨p1, p2, p3⟩ := Oper.apart_spec hap
      have hsi := fun cs b => hsel i oi cs b hi
      have hsj := fun cs b => hsel j oj cs b hoj
      have hgo : ∀ g, N ≤ g → (∀ p ∈ G, p.1 ≠ g) → LiveS N W0 F ((g, ob) :: G) → ∃ obj, FreshQS P ops oj a obj ∧ ∀ g', N ≤ g' → (∀ p ∈ (g, ob) :: G, p.1 ≠ g') → wpQS P md ops N W0 n L f ((listed.setIfInBounds i true).setIfInBounds j true) F ((g', obj) :: (g, ob) :: G) ((a.put oi.dst (freshVS oi g)).put oj.dst (freshVS oj g')) := by
        intro g hN hG hl'
        have h3 := (hx g hN hG hl').2 j (ready_mono hj hji)
        unfold wfQS at h3
        simp only [hoj] at h3
        rw [if_pos haj] at h3
        obtain ⟨ob', hf', hk'⟩ := h3
        exact ⟨ob', hf'.back hsj hap, hk'⟩
      obtain ⟨obj, hfrj⟩ : ∃ obj, FreshQS P ops oj a obj := by
        obtain ⟨g, hN, hG, hl'⟩ := hl.grow ob
        obtain ⟨obj, h, _⟩ := hgo g hN hG hl'
        exact ⟨obj, h⟩
      unfold wfQS
      simp only [hoj]
      rw [if_pos haj]
      refine ⟨obj, hfrj, fun g' hN' hG' => ih (listed.setIfInBounds j true) F ((g', obj) :: G) _ hon ?_ (fun g hN hG => wpQ_liveS fun hl' => ?_)⟩
      · unfold FreshQS
        rw [execOp_put oi hsi a oj.dst _ p3, wanted_put oi a oj.dst _ p3]
        exact hfr
      · have hne : g' ≠ g := hG (g', obj) (by simp)
        obtain ⟨ob', hf', hk'⟩ := hgo g hN (fun p hp => hG p (by simp [hp])) ((hl'.same (G' := (g', obj) :: (g, ob) :: G) (fun p => by simp only [List.mem_cons]; constructor <;> (rintro (h | h | h) <;> simp [h]))).weak)
        have hobe : obj = ob' := freshQ_obS hfrj hf' rfl W0
        subst hobe
        have h4 := hk' g' hN' (fun p hp => by
          rcases List.mem_cons.1 hp with rfl | hp
          · exact Ne.symm hne
          · exact hG' p hp)
        rw [Array.setIfInBounds_comm _ _ (Ne.symm hji), Act.put_comm a _ _ p2] at h4
        exact wpQ_sameS hL f _ _ _ _ _ (fun p => by simp only [List.mem_cons]; constructor <;> (rintro (h | h | h) <;> simp [h])) h4
theorem wpOp_of_wfQS {i : Nat} {a : Act} {w : World} {F : World → Prop} {G : List (Nat × Obj)} {K : GK} {K' : Act → World → Prop} {Q' : Exit → Act → World → Prop} (hF : F w) (hC : Cl F) (hS : SG N W0 G w)
    (h : ∀ F G a w, Cl F → F w → SG N W0 G w → K F G a → K' a w) (hh : wfQS P ops N W0 i K F G a) : wpOp P ops Q' i K' a w := by
  unfold wfQS at hh
  unfold wpOp
  split
  · rename_i ho; simp only [ho] at hh
  · rename_i o ho
    simp only [ho] at hh
    split at hh
    · obtain ⟨ob, ⟨hw, hf⟩, hk⟩ := hh
      rw [if_pos hw]
      refine .inl ?_
      unfold Oper.wp
      rw [hf w]
      exact h _ _ _ _ hC (hC _ _ hF ((Below.refl _ _).alloc (Nat.le_refl _) _)) (hS.alloc ob) (hk _ hS.1.1 (fun p hp e => by have := hS.size hp; omega))
    · rcases hh with ⟨v, hy, hk⟩ | ⟨hw, hx⟩ | ⟨hw, hx⟩
      · rcases hy with ⟨hw, hg⟩ | ⟨hw, rfl⟩
        · rw [if_pos hw]
          refine .inl ?_
          have hg := hg w hS.1
          unfold Oper.wp
          generalize (execOp a.eval o).run P w = r at *
          cases r with
          | ok nx w' =>
            cases nx <;> simp only [givesB, Oper.upon] at hg ⊢
            case value u => obtain ⟨rfl, h2⟩ := hg; exact h _ _ _ _ hC (hC _ _ hF h2) (hS.below h2) hk
            case skip => obtain ⟨rfl, h2⟩ := hg; exact h _ _ _ _ hC (hC _ _ hF h2) (hS.below h2) hk
            case enter f args => exact hg.mono fun e w'' ⟨he, hw⟩ => by subst he; exact h _ _ _ _ hC (hC _ _ hF hw) (hS.below hw) hk
          | halt x w' => simp only [givesB] at hg
        · rw [if_neg (by simp [hw])]
          exact h _ _ _ _ hC hF hS hk
      · rw [if_pos hw]
        refine .inl ?_
        have hg := hx w hF hS
        unfold Oper.wp
        generalize (execOp a.eval o).run P w = r at *
        cases r with
        | ok nx w' =>
          cases nx <;> simp only [givesW, Oper.upon] at hg ⊢
          case value u => obtain ⟨v, F', G', e1, hF', hC', hS', hk⟩ := hg; injection e1 with e1; subst e1; exact h _ _ _ _ hC' hF' hS' hk
          case skip => obtain ⟨v, F', G', e1, hF', hC', hS', hk⟩ := hg; injection e1 with e1; subst e1; exact h _ _ _ _ hC' hF' hS' hk
          case enter f args => exact hg.mono fun e w'' ⟨v, F', G', e1, hF', hC', hS', hk⟩ => by subst e1; exact h _ _ _ _ hC' hF' hS' hk
        | halt x w' => simp only [givesW] at hg
      · rw [if_pos hw]
        refine .inl ?_
        have hg := hx w hF hS
        unfold Oper.wp
        generalize (execOp a.eval o).run P w = r at *
        cases r with
        | ok nx w' =>
          cases nx <;> simp only [givesX, Oper.upon] at hg ⊢
          case value u => obtain ⟨F', hb, hF', hC', hk⟩ := hg; exact h _ _ _ _ (hC.and hC') ⟨hC _ _ hF hb, hF'⟩ (hS.below hb) hk
          case skip => obtain ⟨F', hb, hF', hC', hk⟩ := hg; exact h _ _ _ _ (hC.and hC') ⟨hC _ _ hF hb, hF'⟩ (hS.below hb) hk
          case enter f args => exact hg.mono fun e w'' ⟨v, F', he, hb, hF', hC', hk⟩ => by subst he; exact h _ _ _ _ (hC.and hC') ⟨hC _ _ hF hb, hF'⟩ (hS.below hb) hk
        | halt x w' => simp only [givesX] at hg
theorem wpAny_of_wpQS {n : List Nat} {L : GK} {Q' : Exit → Act → World → Prop} (hn : ∀ j ∈ n, j < ops.size) (hL : ∀ F G a w, F w → SG N W0 G w → L F G a → wpList P ops Q' (n.filterMap (fun i => ops[i]?)) a w) :
    ∀ (f : Nat) (listed : Array Bool) (F : World → Prop) (G : List (Nat × Obj)) (a : Act) (w : World), Cl F → F w → SG N W0 G w → wpQS P md ops N W0 n L f listed F G a → wpAny P md ops Q' (f + n.length) listed a w
  | 0, listed, F, G, a, w, hC, hF, hS, h => by
    rw [Nat.zero_add]
    have h := h ⟨hC, w, hF, hS⟩
    exact wpAny_of_seqJS n listed a w hn h.1 (hL _ _ _ _ hF hS h.2)
  | f + 1, listed, F, G, a, w, hC, hF, hS, h => by
    rw [show f + 1 + n.length = (f + n.length) + 1 by omega]
    have h := h ⟨hC, w, hF, hS⟩
    exact ⟨fun h0 => absurd h0 h.1, fun i hi => wpOp_of_wfQS hF hC hS (fun F' G' a' w' hC' hF' hS' h' => wpAny_of_wpQS hn hL f _ F' G' a' w' hC' hF' hS' h') (h.2 i hi)⟩
/-- The region, taken so: m operations, then those whose numbers are listed. -/
theorem wp_region_floatQS {id : Nat} {Q : Exit → Act → World → Prop} {a : Act} {l : List Oper} {W0 : World} (N m : Nat) (n : List Nat) (hN : N ≤ W0.heap.size) (F0 : World → Prop) (hF0 : F0 W0) (hC0 : Cl F0) (hm : P.follows .mixedOrders = true) (hn : (decide (m + n.length = l.length) && n.all (fun j => decide (j < l.length))) = true)
    (h : wpQS P .any l.toArray N W0 n (fun F G a' => ∀ w', F w' → SG N W0 G w' → wpList P l.toArray Q (n.filterMap (fun i => l[i]?)) a' w') m (Array.replicate l.length false) F0 [] a) : (Code.region id l.toArray true).wp P Q a W0 := by
  simp only [Bool.and_eq_true, decide_eq_true_eq, List.all_eq_true] at hn
  refine wp_region_any hm ?_
  have := wpAny_of_wpQS (Q' := Q) (ops := l.toArray) (fun j hj => by simpa using hn.2 j hj) (fun F G a w hF hS hL => by simpa using hL w hF hS) _ _ _ [] a W0.drew hC0 (hC0 _ _ hF0 (Below.refl _ _).drew) ⟨(Own.refl hN).drew, fun p hp => by cases hp⟩ h
  rw [hn.1] at this
  simpa using this
def stepBQS (md : Region.Mode) (ops : Array Oper) (n : List Nat) (i : Nat) (listed : Array Bool) : Bool :=
  tailBJS md ops n && dcBS md ops listed && (!n.contains i) && (Region.ready md ops listed).contains i && Region.free md ops listed i && match ops[i]? with | some o => !isFreshS o | none => false
theorem stepB_specQS {n : List Nat} {i : Nat} {listed : Array Bool} {o : Oper} (hi : ops[i]? = some o) (h : stepBQS md ops n i listed = true) :
    (tailBJS md ops n = true ∧ dcBS md ops listed = true) ∧ n.contains i = false ∧ i ∈ Region.ready md ops listed ∧ Region.free md ops listed i = true ∧ isFreshS o = false := by
  simp only [stepBQS, hi, Bool.and_eq_true, Bool.not_eq_true'] at h
  obtain ⟨⟨⟨⟨⟨a, a'⟩, b⟩, c⟩, d⟩, e⟩ := h
  exact ⟨⟨a, a'⟩, b, by simpa using c, d, e⟩
theorem wpQ_stepS {i f : Nat} {n : List Nat} {o : Oper} {L : GK} {listed : Array Bool} {F : World → Prop} {G : List (Nat × Obj)} {a : Act} (hi : ops[i]? = some o) (hB : stepBQS md ops n i listed = true) (hg : o.guard = none) (v : Value)
    (h : GivesH P N W0 o a v) (hk : ∀ K : Act → Prop, (∀ a, wpQS P md ops N W0 n L f (listed.setIfInBounds i true) F G a → K a) → K (a.put o.dst v)) : wpQS P md ops N W0 n L (f + 1) listed F G a := by
  obtain ⟨h1, h2, h3, h4, h5⟩ := stepB_specQS hi hB
  exact wpQ_firstS h1.1 h2 hi h5 f listed F G a (dcB_specS h1.2) (Region.free_spec hi h4) h3 (.inl ⟨by simp [Region.wanted, hg], h⟩) (hk _ fun _ h => h)
theorem wpQ_step_onS {i f : Nat} {n : List Nat} {o : Oper} {L : GK} {listed : Array Bool} {F : World → Prop} {G : List (Nat × Obj)} {a : Act} (hi : ops[i]? = some o) (hB : stepBQS md ops n i listed = true) (hg : Region.wanted o (yielded ops a.tmps) = true) (v : Value)
    (h : GivesH P N W0 o a v) (hk : ∀ K : Act → Prop, (∀ a, wpQS P md ops N W0 n L f (listed.setIfInBounds i true) F G a → K a) → K (a.put o.dst v)) : wpQS P md ops N W0 n L (f + 1) listed F G a := by
  obtain ⟨h1, h2, h3, h4, h5⟩ := stepB_specQS hi hB
  exact wpQ_firstS h1.1 h2 hi h5 f listed F G a (dcB_specS h1.2) (Region.free_spec hi h4) h3 (.inl ⟨hg, h⟩) (hk _ fun _ h => h)
theorem wpQ_step_offS {i f : Nat} {n : List Nat} {o : Oper} {L : GK} {listed : Array Bool} {F : World → Prop} {G : List (Nat × Obj)} {a : Act} (hi : ops[i]? = some o) (hB : stepBQS md ops n i listed = true) (hg : Region.wanted o (yielded ops a.tmps) = false)
    (hk : ∀ K : Act → Prop, (∀ a, wpQS P md ops N W0 n L f (listed.setIfInBounds i true) F G a → K a) → K (a.put o.dst undef)) : wpQS P md ops N W0 n L (f + 1) listed F G a := by
  obtain ⟨h1, h2, h3, h4, h5⟩ := stepB_specQS hi hB
  exact wpQ_firstS h1.1 h2 hi h5 f listed F G a (dcB_specS h1.2) (Region.free_spec hi h4) h3 (.inr ⟨hg, rfl⟩) (hk _ fun _ h => h)
def freshBQS (md : Region.Mode) (ops : Array Oper) (i f : Nat) (listed : Array Bool) : Bool :=
  Region.noSelect ops && onlyQS md ops i f listed && match ops[i]? with | some o => isFreshS o | none => false
/-- A new block or row, beside others alone. -/
theorem wpQ_freshS {i f : Nat} {n : List Nat} {o : Oper} {L : GK} {listed : Array Bool} {F : World → Prop} {G : List (Nat × Obj)} {a : Act} (hL : LInv L) (hi : ops[i]? = some o) (hB : freshBQS md ops i f listed = true) (hg : Region.wanted o (yielded ops a.tmps) = true) (mk : Nat → Value) (hmk : freshVS o = mk) (ob : Obj)
    (h : ∀ W, (execOp a.eval o).run P W = .ok (.value (mk W.heap.size)) (W.alloc ob))
    (hk : ∀ g, N ≤ g → (∀ p ∈ G, p.1 ≠ g) → ∀ K : Act → Prop, (∀ a, wpQS P md ops N W0 n L f (listed.setIfInBounds i true) F ((g, ob) :: G) a → K a) → K (a.put o.dst (mk g))) : wpQS P md ops N W0 n L (f + 1) listed F G a := by
  subst hmk
  simp only [freshBQS, hi, Bool.and_eq_true] at hB
  obtain ⟨⟨hs, hon⟩, ha⟩ := hB
  exact wpQ_freshfirstS hL (Region.noSelect_spec hs) hi ha ob f listed F G a hon ⟨hg, h⟩ (fun g hN hgg => hk g hN hgg _ fun _ h => h)
def callBQS (md : Region.Mode) (ops : Array Oper) (i f : Nat) (listed : Array Bool) : Bool :=
  Region.noSelect ops && onlyQS md ops i f listed && match ops[i]? with | some o => !isFreshS o | none => false
/-- A call of whatever result, which alone (beside new blocks and rows) may come now. -/
theorem wpQ_callS {i f : Nat} {n : List Nat} {o : Oper} {L : GK} {listed : Array Bool} {F : World → Prop} {G : List (Nat × Obj)} {a : Act} (hi : ops[i]? = some o) (hB : callBQS md ops i f listed = true)
    (hg : Region.wanted o (yielded ops a.tmps) = true)
    (hk : ∀ W, F W → SG N W0 G W → givesX P W (fun v F' => ∀ K : Act → Prop, (∀ a, wpQS P md ops N W0 n L f (listed.setIfInBounds i true) (fun W => F W ∧ F' W) G a → K a) → K (a.put o.dst v)) ((execOp a.eval o).run P W)) : wpQS P md ops N W0 n L (f + 1) listed F G a := by
  simp only [callBQS, hi, Bool.and_eq_true, Bool.not_eq_true'] at hB
  obtain ⟨⟨hs, hon⟩, hna⟩ := hB
  exact wpQ_callfirstS (Region.noSelect_spec hs) hi hna f listed F G a hon ⟨hg, fun W hF hS => givesX_mono (fun v F' hk => hk _ fun _ h => h) _ (hk W hF hS)⟩
def wpQIS (P : Program) (md : Region.Mode) (ops : Array Oper) (N : Nat) (W0 : World) (n : List Nat) (L : GK) (_ : List Nat) (m : Nat) (listed : Array Bool) (F : World → Prop) (G : List (Nat × Obj)) (a : Act) : Prop := wpQS P md ops N W0 n L m listed F G a
theorem wpQI_startS {m : Nat} {n : List Nat} {L : GK} {listed : Array Bool} {F : World → Prop} {G : List (Nat × Obj)} {a : Act} (is : List Nat) (h : wpQIS P md ops N W0 n L is m listed F G a) : wpQS P md ops N W0 n L m listed F G a := h
theorem wpQI_nilS {m : Nat} {n : List Nat} {L : GK} {listed : Array Bool} {F : World → Prop} {G : List (Nat × Obj)} {a : Act} (h : wpQS P md ops N W0 n L m listed F G a) : wpQIS P md ops N W0 n L [] m listed F G a := h
theorem wpQI_stepS {i f : Nat} {n : List Nat} {is : List Nat} {o : Oper} {L : GK} {listed : Array Bool} {F : World → Prop} {G : List (Nat × Obj)} {a : Act} (hi : ops[i]? = some o) (hB : stepBQS md ops n i listed = true) (hg : o.guard = none) (v : Value)
    (h : GivesH P N W0 o a v) (hk : ∀ K : Act → Prop, (∀ a, wpQIS P md ops N W0 n L is f (listed.setIfInBounds i true) F G a → K a) → K (a.put o.dst v)) : wpQIS P md ops N W0 n L (i :: is) (f + 1) listed F G a := wpQ_stepS hi hB hg v h hk
theorem wpQI_onS {i f : Nat} {n : List Nat} {is : List Nat} {o : Oper} {L : GK} {listed : Array Bool} {F : World → Prop} {G : List (Nat × Obj)} {a : Act} (hi : ops[i]? = some o) (hB : stepBQS md ops n i listed = true) (hg : Region.wanted o (yielded ops a.tmps) = true) (v : Value)
    (h : GivesH P N W0 o a v) (hk : ∀ K : Act → Prop, (∀ a, wpQIS P md ops N W0 n L is f (listed.setIfInBounds i true) F G a → K a) → K (a.put o.dst v)) : wpQIS P md ops N W0 n L (i :: is) (f + 1) listed F G a := wpQ_step_onS hi hB hg v h hk
theorem wpQI_offS {i f : Nat} {n : List Nat} {is : List Nat} {o : Oper} {L : GK} {listed : Array Bool} {F : World → Prop} {G : List (Nat × Obj)} {a : Act} (hi : ops[i]? = some o) (hB : stepBQS md ops n i listed = true) (hg : Region.wanted o (yielded ops a.tmps) = false)
    (hk : ∀ K : Act → Prop, (∀ a, wpQIS P md ops N W0 n L is f (listed.setIfInBounds i true) F G a → K a) → K (a.put o.dst undef)) : wpQIS P md ops N W0 n L (i :: is) (f + 1) listed F G a := wpQ_step_offS hi hB hg hk
theorem wpQ_doneS {n : List Nat} {L : GK} {listed : Array Bool} {F : World → Prop} {G : List (Nat × Obj)} {a : Act} (hB : seqJS md ops n listed = true) (h : L F G a) : wpQS P md ops N W0 n L 0 listed F G a := fun _ => ⟨hB, h⟩
theorem LInv.stdS {l : List Oper} {Q : Exit → Act → World → Prop} {n : List Oper} : LInv (fun F G a' => ∀ w', F w' → SG N W0 G w' → wpList P l.toArray Q n a' w') := fun F G G' a h hL w' hF hS => hL w' hF (hS.same (fun p => (h p).symm))
end
end Go.Proofs.Ytgejdaincnclpaa
namespace Go.Proofs.Ytgejdaincnclpaa
open Go Go.RowKit
set_option linter.unusedVariables false
-- drawS
/-- 'append(v, x)', v a row of the call's own (or nil), x one element that lies in a block. -/
theorem wpList_append_far {w : World} {ops : Array Oper} {rest : List Oper} {o : Oper} {a : Act} {Q : Exit → Act → World → Prop} (hgd : o.guard = none) (s x : Operand) (t e : TypeId) (z : Value) (size bytes : Nat)
    (ho : o.op = .call { callee := .builtin .append, args := #[s, x], argTypes := #[t, t] })
    (ht : Try.prog.underlying t = some (.slice e)) (hinfo : (Try.prog.info? e).map (fun i => (i.zero, i.size, i.bytes)) = some (some z, size, bytes)) (hzs : z.cells.size = size) (hsz : 0 < size)
    (base : Nat) (v : Value) (n : Nat) (xs cs : List Value) (hs : a.eval s = v) (hown : w.ownsRow base e size v n xs)
    (g c : Nat) (hx : a.eval x = .slice (some ⟨g, 0, none⟩) 1 c) (hl : cs.length = size) (hcell : ∀ j u, cs[j]? = some u → w.cell? ⟨g, j, none⟩ = some u) (h1 : ∀ u ∈ cs, u.oneCell' = true) (h63 : n + 1 ≤ maxLen) (hbytes : (n + 1) * bytes ≤ 140737488355328) (hbase : base ≤ w.heap.size)
    (h : ∀ v' w', w'.ownsRow base e size v' (n + 1) (xs ++ cs) → w.grownBy w' v.ownBlock → (v'.ownBlock = v.ownBlock ∨ v'.ownBlock = some w.heap.size) → wpList Try.prog ops Q rest (a.put o.dst v') w') : wpList Try.prog ops Q (o :: rest) a w := by
  refine wpList_plain hgd fun K hK => ?_
  obtain ⟨i, hi, hz, hsi, hb⟩ := info_parts hinfo
  obtain ⟨v', w', hrun, h2, h3, _, h5⟩ := run_append_own_at (P := Try.prog) w base t o.type e i _ size bytes ht hi hz hsi hb hzs hsz v n xs hown ⟨g, 0, none⟩ 1 c cs (by rw [hl, Nat.one_mul]) (fun j u hu => by
      rw [show (⟨g, 0, none⟩ : Addr).add j = ⟨g, j, none⟩ by unfold Addr.add; split <;> simp_all]
      exact hcell j u hu) h1 h63 hbytes hbase
  unfold Oper.wp execOp
  simp only [ho, resolve, invoke, builtin, Sem.run_bind, Sem.run_pure, Result.andThen_ok, List.map_toArray, List.map_cons, List.map_nil, hs, hx, hrun]
  exact hK _ _ (h v' w' h2 h3 h5)
theorem IAt.cl (A : Option Addr) (l : List Int) : Cl (fun w => IAt w A l) := fun _ _ h hb => h.below hb (Nat.le_refl _)
theorem iat_one {w : World} {g : Nat} {x : Int} {e : TypeId} {z : Nat × Nat} (h : w.heap[g]? = some (.cells #[.int .i64 x] e z)) : IAt w (some ⟨g, 0, none⟩) [x] := fun k y hk => by
  rcases k with _ | k
  · simp only [List.getElem?_cons_zero, Option.some.injEq] at hk
    subst hk
    exact ⟨g, 0, rfl, (Array.getElem?_eq_some_iff.1 h).1, cell_of_row w g 0 _ e z h⟩
  · simp at hk
def mvd (o v : List V2) (n : Nat) : Bool := (List.range n).any (fun k => decide (¬ o.getD k (0, 0) = v.getD k (0, 0)))
theorem mvd_suc (o v : List V2) (n : Nat) : mvd o v (n + 1) = (mvd o v n || decide (¬ o.getD n (0, 0) = v.getD n (0, 0))) := by
  unfold mvd
  rw [List.range_succ, List.any_append]
  simp
theorem getD_at {v : List V2} {k : Nat} {x : V2} (h : v[k]? = some x) : v.getD k (0, 0) = x := by rw [List.getD_eq_getElem?_getD, h]; rfl
theorem enTo_suc {v : List V2} {k : Nat} {x y : Int} (h : v[k]? = some (x, y)) : enTo v (k + 1) = enTo v k + (x * x + y * y) := by
  show enTo v k + sqV (v.getD k (0, 0)) = _
  rw [getD_at h]; rfl
theorem sq_bd {x y : Int} (h : withinB x y 1048576 = true) : 0 ≤ x * x + y * y ∧ x * x + y * y ≤ 2199023255552 := by
  have hb := within_bd2 h
  have a1 := sq_nn x
  have a2 := sq_nn y
  have b1 := (mulB x x 1048576 1048576 ⟨by omega, by omega⟩ ⟨by omega, by omega⟩).2
  have b2 := (mulB y y 1048576 1048576 ⟨by omega, by omega⟩ ⟨by omega, by omega⟩).2
  omega
theorem enTo_bd {v : List V2} (h : v.all (nearB 1048576) = true) : ∀ k : Nat, 0 ≤ enTo v k ∧ enTo v k ≤ (k : Int) * 2199023255552
  | 0 => by show (0 : Int) ≤ 0 ∧ (0 : Int) ≤ _; omega
  | k + 1 => by
    have ih := enTo_bd h k
    show 0 ≤ enTo v k + sqV (v.getD k (0, 0)) ∧ enTo v k + sqV (v.getD k (0, 0)) ≤ _
    by_cases hk : k < v.length
    · have := sq_bd (List.all_eq_true.1 h _ (List.getElem_mem hk))
      rw [getD_at (x := v[k]) (by simp [hk])]
      unfold sqV
      omega
    · rw [List.getD_eq_getElem?_getD, List.getElem?_eq_none (by omega)]
      unfold sqV
      simp only [Option.getD_none]
      omega
theorem dot16 {x y : Int} (h : withinB x y 1048576 = true) : dotR x y x y = x * x + y * y := by
  have := within_bd2 h
  unfold dotR
  rw [if_pos ⟨small_of (by omega), small_of (by omega)⟩]
/-- All of the plain law for one result. -/
structure EnOk (S : List Mt) (v o : List V2) (ch : Bool) : Prop where
  l1 : S.length ≤ 16
  l2 : v.length ≤ 64
  len : o.length = v.length
  nv : v.all (nearB 1048576) = true
  no : o.all (nearB 1048576) = true
  en : enTo o v.length ≤ enTo v v.length
  ch : ch = mvd o v v.length
  mem : ∀ k : Nat, ¬ o.getD k (0, 0) = v.getD k (0, 0) → (setI (ballsL S)).filter (fun y => y == (k : Int)) = [(k : Int)]
theorem en_ok {l : List Mt} {v : List V2} (h : (resR (l.map stillM) v).2.2 = 0) : EnOk (l.map stillM) v (resR (l.map stillM) v).1 (resR (l.map stillM) v).2.1 := by
  obtain ⟨h1, hv, hp⟩ := resR_ok h
  obtain ⟨hn, hl⟩ := res_near h
  obtain ⟨m1, m2⟩ := res_moved h
  refine ⟨by omega, by omega, hl, hv, hn, res_energy (fun m hm => ?_) h, m1, fun k hk => with_one (setI_asc _) (m2 k hk)⟩
  obtain ⟨x, _, rfl⟩ := List.mem_map.1 hm
  exact ⟨rfl, rfl, rfl, rfl⟩
set_option maxRecDepth 100000 in
set_option maxHeartbeats 40000000 in
theorem energy_law (l : List Mt) (A : Option Addr) (c : Nat) (v : List V2) (B : Option Addr) (d : Nat) (w : World) (hM : MAt w A l) (hV : VAt w B v) (hl : l.length * 80 ≤ 140737488355328) :
    Calls Try.prog 4 #[.slice A l.length c, .slice B v.length d] w fun e w' => e = .returned (.bool true) ∧ Below w.heap.size w w' := by
  have HM := Lib.hid hM
  have HV := Lib.hid hV
  have ka := fun w => awake16_any w
  have KA := Lib.hid ka
  clear ka hM hV
  go_enter Try.func4, Try.ntmps4; (try simp only [List.append_eq, List.cons_append, List.nil_append])
  go_wp2_with fail
  -- own blocks: 
  (go_at_call 6; refine (KA.out _).mono ?_; rintro e w1 ⟨rfl, hb_w1⟩; have hz_w1 := hb_w1.size; (try simp at hz_w1); skip)
  have HB1 := Lib.hid (show Below w.heap.size w w1 by ((with_reducible (repeat (first | exact bR _ _ | refine bS ?_ ?_ _ | refine bA ?_ ?_ _ | refine bD ?_ | refine bT ?_ (by assumption) ?_ | refine bO (by assumption) ?_ ?_))) <;> (first | omega | (simp; done) | (simp <;> omega))))
  clear hb_w1
  go_wp2_with fail
  go_loopw [5, 6] (fun t5 t6 wr => ∃ (k : Nat) (E : Option Addr) (q : Nat), k ≤ l.length ∧ t6 = .int .i64 k ∧ t5 = .slice E ((l.take k).map stillM).length q ∧ Hid (OwnM wr w1.heap.size E q ((l.take k).map stillM) ∧ Below w1.heap.size w1 wr)) (fun _ t6 _ => l.length - (intOf t6).toNat)
  case atStart => exact ⟨0, none, 0, by omega, rfl, rfl, Lib.hid ⟨OwnM.nil _ _, Below.refl _ _⟩⟩
  case round =>
    obtain ⟨k, E, q, hk, rfl, rfl, HI⟩ := hrel
    obtain ⟨w3, rfl⟩ : ∃ z, z = wr := ⟨_, rfl⟩
    have HB3 := Lib.hid (HB1.out.trans (HI.out.2.mono (by have := HB1.out.size; omega)))
    have k1 : (0 : Int) ≤ (k : Int) := by omega
    have hz3 : w1.heap.size ≤ w3.heap.size := HI.out.2.size
    by_cases hkl : k < l.length
    · have k2 : (k : Int) < (l.length : Int) := by omega
      obtain ⟨m, hm⟩ : ∃ m, l[k]? = some m := ⟨l[k], by simp⟩
      obtain ⟨gm, om, rfl, hgm, m0, m1, m2, m3, m4, m5, m6, m7, m8, m9⟩ := (HM.out.below HB3.out (Nat.le_refl _)) k m hm
      have HT := Lib.hid (show ((l.take (k + 1)).map stillM) = ((l.take k).map stillM) ++ [⟨m.a, m.b, m.n1, m.n2, 0, 0, 0, 0, m.e, m.g⟩] from map_take_suc (f := stillM) hm)
      have hL1 : ((l.take k).map stillM).length ≤ k := by rw [List.length_map, List.length_take]; omega
      generalize ((l.take k).map stillM) = L at *
      obtain ⟨ma, mb, n1, n2, x1, x2, y1, y2, e, f⟩ := m
      simp only at m0 m1 m2 m3 m4 m5 m6 m7 m8 m9 HT
      clear hm
      go_wp2_with (at_builtin; go_must (refine wpList_append_far rfl _ _ 29 34 _ 10 80 rfl Try.underlying29 infM rfl (by decide) w1.heap.size _ L.length (flatM L) (Mt.cells ⟨ma, mb, n1, n2, 0, 0, 0, 0, e, f⟩) rfl (OwnM.bel HI.out.1 (show Below w3.heap.size w3 _ by ((with_reducible (repeat (first | exact bR _ _ | refine bS ?_ ?_ _ | refine bA ?_ ?_ _ | refine bD ?_ | refine bT ?_ (by assumption) ?_ | refine bO (by assumption) ?_ ?_))) <;> (first | omega | (simp; done) | (simp <;> omega)))) (Nat.le_refl _)) _ 1 rfl rfl (cell10 (m := ⟨ma, mb, n1, n2, 0, 0, 0, 0, e, f⟩) (by go_simp) (by go_simp) (by go_simp) (by go_simp) (by go_simp) (by go_simp) (by go_simp) (by go_simp) (by go_simp) (by go_simp)) one10 (by unfold maxLen; omega) (by omega) (by simp; omega) ?_))
      intro v1' w6 hown6 hg6 _
      obtain ⟨P, hBP, hgP⟩ : ∃ P : World, Below w3.heap.size w3 P ∧ P.grownBy w6 (Value.ownBlock (.slice E L.length q)) := ⟨_, (by ((with_reducible (repeat (first | exact bR _ _ | refine bS ?_ ?_ _ | refine bA ?_ ?_ _ | refine bD ?_ | refine bT ?_ (by assumption) ?_ | refine bO (by assumption) ?_ ?_))) <;> (first | omega | (simp; done) | (simp <;> omega)))), hg6⟩
      obtain ⟨E6, q6, rfl, ho6⟩ := ownm_snoc hown6
      have HO6 := Lib.hid ho6
      have HB6 := Lib.hid ((HI.out.2.trans (hBP.mono hz3)).grown hgP (by have := hBP.size; omega) (HI.out.1.fresh))
      clear hown6 ho6 hg6 hBP hgP m0 m1 m2 m3 m4 m5 m6 m7 m8 m9
      go_wp2_with fail
      go_roundw
      case rel => exact ⟨k + 1, E6, q6, by omega, by go_num, by rw [HT.out], Lib.hid ⟨by rw [HT.out]; exact HO6.out, HB6.out⟩⟩
      case measure => simp [intOf]; omega
    · obtain rfl : k = l.length := by omega
      have HI' := HI.out
      rw [List.take_length] at HI' ⊢
      have HE := Lib.hid (show MAt w3 E (l.map stillM) from HI'.1.mat)
      have HOK := Lib.hid (fun h => en_ok (l := l) (v := v) h)
      have HER := Lib.hid (fun h => resR_err (l := l.map stillM) (v := v) h)
      have kr := fun w' (h : Below w3.heap.size w3 w') => resolve_any (l.map stillM) E q v B d w' (HE.out.below h (Nat.le_refl _)) (HV.out.below (HB3.out.trans (h.mono (by have := HB3.out.size; omega))) (Nat.le_refl _))
      generalize resR (l.map stillM) v = R at *
      generalize l.map stillM = S at *
      obtain ⟨o1, ch, code⟩ := R
      have KR := Lib.hid kr
      clear kr HI HI' hl
      go_wp2_with fail
      -- own blocks: 
      (go_at_call 10; refine (KR.out _ (Below.refl _ _)).mono ?_; rintro e w4 ⟨hb_w4, O, qo, rfl, ho⟩; have hz_w4 := hb_w4.size; (try simp at hz_w4); skip)
      have HB4 := Lib.hid (HB3.out.trans (hb_w4.mono HB3.out.size))
      have HS4 := Lib.hid (HE.out.below hb_w4 (Nat.le_refl _))
      have HO4 := Lib.hid (show VAt w4 O o1 from ho)
      clear hb_w4 ho KR HE
      (try simp only)
      by_cases hcd : code = 0
      case neg =>
        obtain ⟨e1, e2⟩ := HER.out hcd
        (try simp only at e1 e2)
        subst e1 e2
        have hc1 : (code != 0) = true := by rw [bne_iff_ne]; exact hcd
        clear HOK HER
        go_wp2_with fail
        go_ret
        exact ⟨rfl, HB4.out⟩
      case pos =>
        subst hcd
        have HK := Lib.hid (show EnOk S v o1 ch from HOK.out rfl)
        have l2 := HK.out.l2
        have l3 := HK.out.l1
        have hbl : (setI (ballsL S)).length ≤ 64 := by have h1 := setI_len (ballsL S); have h2 := ballsL_len S; omega
        have kb := fun w' (h : Below w4.heap.size w4 w') => balls_any S E q w' (HS4.out.below h (Nat.le_refl _)) (by omega)
        have HMM := Lib.hid HK.out.mem
        generalize setI (ballsL S) = bs at *
        have KB := Lib.hid kb
        have kd := fun (a b c d : Int) (w : World) => vdot_any a b c d w
        have KD := Lib.hid kd
        clear HOK HER kb kd
        go_wp2_with fail
        go_loopw [11, 12, 13, 14] (fun t11 t12 t13 t14 wr => ∃ k : Nat, k ≤ v.length ∧ t14 = .int .i64 k ∧ t11 = .int .i64 (enTo v k) ∧ t12 = .int .i64 (enTo o1 k) ∧ t13 = .bool (mvd o1 v k) ∧ Hid (Below w4.heap.size w4 wr)) (fun _ _ _ t14 _ => v.length - (intOf t14).toNat)
        case atStart => exact ⟨0, by omega, rfl, rfl, rfl, rfl, Lib.hid (Below.refl _ _)⟩
        case round =>
          obtain ⟨k, hk, rfl, rfl, rfl, rfl, HW⟩ := hrel
          obtain ⟨w5, rfl⟩ : ∃ z, z = wr := ⟨_, rfl⟩
          have HB5 := Lib.hid (HB4.out.trans (HW.out.mono (by have := HB4.out.size; omega)))
          have k1 : (0 : Int) ≤ (k : Int) := by omega
          have hev := enTo_bd HK.out.nv k
          have heo := enTo_bd HK.out.no k
          by_cases hkl : k < v.length
          · have k2 : (k : Int) < (v.length : Int) := by omega
            have k3 : (k : Int) < (o1.length : Int) := by have := HK.out.len; omega
            obtain ⟨⟨x, y⟩, hx⟩ : ∃ x, v[k]? = some x := ⟨v[k], by simp⟩
            obtain ⟨⟨x', y'⟩, hx'⟩ : ∃ x, o1[k]? = some x := ⟨o1[k]'(by have := HK.out.len; omega), by simp⟩
            obtain ⟨g, o, rfl, hg, c0, c1⟩ := (HV.out.below HB5.out (Nat.le_refl _)) k _ hx
            obtain ⟨g2, o2, rfl, hg2, d0, d1⟩ := (HO4.out.below HW.out (Nat.le_refl _)) k _ hx'
            simp only at c0 c1 d0 d1
            have hnx : withinB x y 1048576 = true := List.all_eq_true.1 HK.out.nv _ (List.mem_of_getElem? hx)
            have hno : withinB x' y' 1048576 = true := List.all_eq_true.1 HK.out.no _ (List.mem_of_getElem? hx')
            have s1 := sq_bd hnx
            have s2 := sq_bd hno
            have HE1 := Lib.hid (enTo_suc hx)
            have HE2 := Lib.hid (enTo_suc hx')
            have HMV := Lib.hid (mvd_suc o1 v k)
            rw [getD_at hx, getD_at hx'] at HMV
            have HFI := Lib.hid (show ¬ (x', y') = (x, y) → bs.filter (fun z => z == (k : Int)) = [(k : Int)] from fun h => HMM.out k (by rw [getD_at hx, getD_at hx']; exact h))
            rw [← dot16 hnx] at s1 HE1
            rw [← dot16 hno] at s2 HE2
            generalize enTo v k = ev at *
            generalize enTo o1 k = eo at *
            generalize mvd o1 v k = mv at *
            have a1 : -9223372036854775808 ≤ ev + dotR x y x y ∧ ev + dotR x y x y ≤ 9223372036854775807 := by omega
            have a2 : -9223372036854775808 ≤ eo + dotR x' y' x' y' ∧ eo + dotR x' y' x' y' ≤ 9223372036854775807 := by omega
            clear hx hx' hnx hno hev heo s1 s2
            go_wp2_with fail
            -- own blocks: 
            refine wp_region_warm (Own w5.heap.size w5) (by kernel_rfl) (by kernel_rfl) (Own.refl (Nat.le_refl _)).drew ?_
            repeat (first | (refine wpWarm_step_off rfl (fun K hK => ?_); (go_simp; refine hK _ ?_; clear hK K)) | (apply wpWarm_step rfl; (focus (intro W' hS; have hcS := hS.cells.1; have hfS := hS.cells.2; go_simp; (first | done | exact rfl | exact ⟨rfl, hS⟩ | (go_at_call 11; exact (KD.out _ _ _ _ _).mono (fun _ _ h => ⟨h.1, hS.call h.2⟩)) | (go_simp; exact rfl)))); (intro K hK; go_simp; (try go_bits); refine hK _ ?_; clear hK K)) | (apply wpWarm_step_on rfl; (focus (intro W' hS; have hcS := hS.cells.1; have hfS := hS.cells.2; go_simp; (first | done | exact rfl | exact ⟨rfl, hS⟩ | (go_at_call 11; exact (KD.out _ _ _ _ _).mono (fun _ _ h => ⟨h.1, hS.call h.2⟩)) | (go_simp; exact rfl)))); (intro K hK; go_simp; (try go_bits); refine hK _ ?_; clear hK K)))
            (refine wpWarm_nil ?_; intro w6 hO; have hz_w6 := hO.1; have hb_w6 := hO.2; clear hO; skip)
            have HB6 := Lib.hid (HW.out.trans (hb_w6.mono HW.out.size))
            have c0' := (hb_w6.cell (p := ⟨g, o + k * 2, none⟩) hg).trans c0
            have c1' := (hb_w6.cell (p := ⟨g, o + k * 2 + 1, none⟩) hg).trans c1
            have d0' := (hb_w6.cell (p := ⟨g2, o2 + k * 2, none⟩) hg2).trans d0
            have d1' := (hb_w6.cell (p := ⟨g2, o2 + k * 2 + 1, none⟩) hg2).trans d1
            have hg6 : g < w6.heap.size := by have := hb_w6.size; omega
            have hg26 : g2 < w6.heap.size := by have := hb_w6.size; omega
            clear hb_w6 c0 c1 d0 d1 hg hg2
            have hcase : (x' = x ∧ y' = y) ∨ ¬ x' = x ∨ (x' = x ∧ ¬ y' = y) := by omega
            rcases hcase with ⟨rfl, rfl⟩ | hne | ⟨rfl, hne⟩
            · have HMV' := Lib.hid (show mvd o1 v (k + 1) = mv by rw [HMV.out]; simp)
              clear HMV HFI
              cases mv
              all_goals
                go_wp2_with fail
                refine wp_region_warm (Own w6.heap.size w6) (by kernel_rfl) (by kernel_rfl) (Own.refl (Nat.le_refl _)).drew ?_
                repeat (first | (refine wpWarm_step_off rfl (fun K hK => ?_); (go_simp; refine hK _ ?_; clear hK K)) | (apply wpWarm_step rfl; (focus (intro W' hS; have hcS := hS.cells.1; have hfS := hS.cells.2; go_simp; (first | done | exact rfl | exact ⟨rfl, hS⟩ | (go_simp; exact rfl)))); (intro K hK; go_simp; (try go_bits); refine hK _ ?_; clear hK K)) | (apply wpWarm_step_on rfl; (focus (intro W' hS; have hcS := hS.cells.1; have hfS := hS.cells.2; go_simp; (first | done | exact rfl | exact ⟨rfl, hS⟩ | (go_simp; exact rfl)))); (intro K hK; go_simp; (try go_bits); refine hK _ ?_; clear hK K)))
                (refine wpWarm_nil ?_; intro w7 hO; have hz_w7 := hO.1; have hb_w7 := hO.2; clear hO; skip)
                have HB7 := Lib.hid (HB6.out.trans (hb_w7.mono HB6.out.size))
                have e0 := (hb_w7.cell (p := ⟨g, o + k * 2, none⟩) hg6).trans c0'
                have e1 := (hb_w7.cell (p := ⟨g, o + k * 2 + 1, none⟩) hg6).trans c1'
                have f0 := (hb_w7.cell (p := ⟨g2, o2 + k * 2, none⟩) hg26).trans d0'
                have f1 := (hb_w7.cell (p := ⟨g2, o2 + k * 2 + 1, none⟩) hg26).trans d1'
                have hg7 : g < w7.heap.size := by have := hb_w7.size; omega
                have hg27 : g2 < w7.heap.size := by have := hb_w7.size; omega
                clear hb_w7 c0' c1' d0' d1' hg6 hg26
                go_wp2_with fail
                refine wp_region_warm (Own w7.heap.size w7) (by kernel_rfl) (by kernel_rfl) (Own.refl (Nat.le_refl _)).drew ?_
                repeat (first | (refine wpWarm_step_off rfl (fun K hK => ?_); (go_simp; refine hK _ ?_; clear hK K)) | (apply wpWarm_step rfl; (focus (intro W' hS; have hcS := hS.cells.1; have hfS := hS.cells.2; go_simp; (first | done | exact rfl | exact ⟨rfl, hS⟩ | (go_simp; exact rfl)))); (intro K hK; go_simp; (try go_bits); refine hK _ ?_; clear hK K)) | (apply wpWarm_step_on rfl; (focus (intro W' hS; have hcS := hS.cells.1; have hfS := hS.cells.2; go_simp; (first | done | exact rfl | exact ⟨rfl, hS⟩ | (go_simp; exact rfl)))); (intro K hK; go_simp; (try go_bits); refine hK _ ?_; clear hK K)))
                (refine wpWarm_nil ?_; intro w8 hO; have hz_w8 := hO.1; have hb_w8 := hO.2; clear hO; skip)
                have HB8 := Lib.hid (HB7.out.trans (hb_w8.mono HB7.out.size))
                clear hb_w8 e0 e1 f0 f1
                go_wp2_with fail
                go_roundw
                case rel => exact ⟨k + 1, by omega, by go_num, by rw [HE1.out], by rw [HE2.out], by rw [HMV'.out], HB8⟩
                case measure => simp [intOf]; omega
            · have hnq : ¬ (x', y') = (x, y) := by simp [hne]
              have HMV' := Lib.hid (show mvd o1 v (k + 1) = true by rw [HMV.out, decide_eq_true hnq]; simp)
              have HFL := Lib.hid (HFI.out hnq)
              clear HMV HFI hnq
              cases mv
              all_goals
                go_wp2_with fail
                refine wp_region_warm (Own w6.heap.size w6) (by kernel_rfl) (by kernel_rfl) (Own.refl (Nat.le_refl _)).drew ?_
                repeat (first | (refine wpWarm_step_off rfl (fun K hK => ?_); (go_simp; refine hK _ ?_; clear hK K)) | (apply wpWarm_step rfl; (focus (intro W' hS; have hcS := hS.cells.1; have hfS := hS.cells.2; go_simp; (first | done | exact rfl | exact ⟨rfl, hS⟩ | (go_simp; exact rfl)))); (intro K hK; go_simp; (try go_bits); refine hK _ ?_; clear hK K)) | (apply wpWarm_step_on rfl; (focus (intro W' hS; have hcS := hS.cells.1; have hfS := hS.cells.2; go_simp; (first | done | exact rfl | exact ⟨rfl, hS⟩ | (go_simp; exact rfl)))); (intro K hK; go_simp; (try go_bits); refine hK _ ?_; clear hK K)))
                (refine wpWarm_nil ?_; intro w7 hO; have hz_w7 := hO.1; have hb_w7 := hO.2; clear hO; skip)
                have HB7 := Lib.hid (HB6.out.trans (hb_w7.mono HB6.out.size))
                have e0 := (hb_w7.cell (p := ⟨g, o + k * 2, none⟩) hg6).trans c0'
                have e1 := (hb_w7.cell (p := ⟨g, o + k * 2 + 1, none⟩) hg6).trans c1'
                have f0 := (hb_w7.cell (p := ⟨g2, o2 + k * 2, none⟩) hg26).trans d0'
                have f1 := (hb_w7.cell (p := ⟨g2, o2 + k * 2 + 1, none⟩) hg26).trans d1'
                have hg7 : g < w7.heap.size := by have := hb_w7.size; omega
                have hg27 : g2 < w7.heap.size := by have := hb_w7.size; omega
                have kw := fun (G : Option Addr) (q : Nat) (w : World) (h : IAt w G bs) => with16_any bs (k : Int) G q w h (by omega)
                rw [HFL.out] at kw
                have KW := Lib.hid kw
                have kn := fun (G H : Option Addr) (q p : Nat) (w : World) h1 h2 => numbers_yes [(k : Int)] G H q p w h1 h2 (by simp)
                have KN := Lib.hid kn
                clear hb_w7 c0' c1' d0' d1' hg6 hg26 kw kn
                go_wp2_with fail
                -- own blocks: 
                (refine pin_wp (N := _) (Nat.le_refl _) (fun w8 hb_w8 hz_w8 => ?_); (try simp at hz_w8); skip); refine wp_region_floatQS w8.heap.size 19 [] (Nat.le_refl _) (fun _ => True) trivial Cl.tt (by kernel_rfl) (by kernel_rfl) ?_
                have HBW := Lib.hid (HB7.out.trans (hb_w8.mono HB7.out.size))
                have p0 := (hb_w8.cell (p := ⟨g, o + k * 2, none⟩) hg7).trans e0
                have p1 := (hb_w8.cell (p := ⟨g, o + k * 2 + 1, none⟩) hg7).trans e1
                have q0 := (hb_w8.cell (p := ⟨g2, o2 + k * 2, none⟩) hg27).trans f0
                have q1 := (hb_w8.cell (p := ⟨g2, o2 + k * 2 + 1, none⟩) hg27).trans f1
                have hg8 : g < w8.heap.size := by have := hb_w8.size; omega
                have hg28 : g2 < w8.heap.size := by have := hb_w8.size; omega
                clear e0 e1 f0 f1 hg7 hg27
                refine wpQI_startS [0, 1, 2, 3, 4, 5, 6, 7, 8, 9, 10] ?_; (iterate 11 (first | (refine wpQI_offS (by with_reducible (refine List.getElem?_toArray.trans ?_; (repeat (first | exact List.getElem?_cons_zero | refine List.getElem?_cons_succ.trans ?_)))) (by kernel_rfl) (by exact rfl) (fun K hK => ?_); go_simp; refine hK _ ?_; clear hK K) | ((first | apply wpQI_stepS (by with_reducible (refine List.getElem?_toArray.trans ?_; (repeat (first | exact List.getElem?_cons_zero | refine List.getElem?_cons_succ.trans ?_)))) (by kernel_rfl) (by exact rfl) | apply wpQI_onS (by with_reducible (refine List.getElem?_toArray.trans ?_; (repeat (first | exact List.getElem?_cons_zero | refine List.getElem?_cons_succ.trans ?_)))) (by kernel_rfl) (by exact rfl)); (focus (intro W' hS; have hcS := hS.cells.1; have hfS := hS.cells.2; go_simp; (first | done | exact rfl | exact ⟨rfl, Below.refl _ _⟩ | (go_simp; first | done | exact rfl | exact ⟨rfl, Below.refl _ _⟩)))); intro K hK; go_simp; (try go_bits); refine hK _ ?_; clear hK K))); refine wpQI_nilS ?_
                refine wpQI_startS [12] ?_; (iterate 1 (first | (refine wpQI_offS (by with_reducible (refine List.getElem?_toArray.trans ?_; (repeat (first | exact List.getElem?_cons_zero | refine List.getElem?_cons_succ.trans ?_)))) (by kernel_rfl) (by exact rfl) (fun K hK => ?_); go_simp; refine hK _ ?_; clear hK K) | ((first | apply wpQI_stepS (by with_reducible (refine List.getElem?_toArray.trans ?_; (repeat (first | exact List.getElem?_cons_zero | refine List.getElem?_cons_succ.trans ?_)))) (by kernel_rfl) (by exact rfl) | apply wpQI_onS (by with_reducible (refine List.getElem?_toArray.trans ?_; (repeat (first | exact List.getElem?_cons_zero | refine List.getElem?_cons_succ.trans ?_)))) (by kernel_rfl) (by exact rfl)); (focus (intro W' hS; have hcS := hS.cells.1; have hfS := hS.cells.2; go_simp; (first | done | exact rfl | exact ⟨rfl, Below.refl _ _⟩ | (go_simp; first | done | exact rfl | exact ⟨rfl, Below.refl _ _⟩)))); intro K hK; go_simp; (try go_bits); refine hK _ ?_; clear hK K))); refine wpQI_nilS ?_
                refine wpQI_startS [14] ?_; (iterate 1 (first | (refine wpQI_offS (by with_reducible (refine List.getElem?_toArray.trans ?_; (repeat (first | exact List.getElem?_cons_zero | refine List.getElem?_cons_succ.trans ?_)))) (by kernel_rfl) (by exact rfl) (fun K hK => ?_); go_simp; refine hK _ ?_; clear hK K) | ((first | apply wpQI_stepS (by with_reducible (refine List.getElem?_toArray.trans ?_; (repeat (first | exact List.getElem?_cons_zero | refine List.getElem?_cons_succ.trans ?_)))) (by kernel_rfl) (by exact rfl) | apply wpQI_onS (by with_reducible (refine List.getElem?_toArray.trans ?_; (repeat (first | exact List.getElem?_cons_zero | refine List.getElem?_cons_succ.trans ?_)))) (by kernel_rfl) (by exact rfl)); (focus (intro W' hS; have hcS := hS.cells.1; have hfS := hS.cells.2; go_simp; (first | done | exact rfl | exact ⟨rfl, Below.refl _ _⟩ | (go_simp; first | done | exact rfl | exact ⟨rfl, Below.refl _ _⟩)))); intro K hK; go_simp; (try go_bits); refine hK _ ?_; clear hK K))); refine wpQI_nilS ?_
                apply wpQ_callS (i := 11) (by with_reducible (refine List.getElem?_toArray.trans ?_; (repeat (first | exact List.getElem?_cons_zero | refine List.getElem?_cons_succ.trans ?_)))) (by kernel_rfl) (by exact rfl); intro W hF hS; have hcS := hS.1.cells.1; have hfS := hS.1.cells.2; go_simp; (go_at_call 13; refine (KB.out _ (HBW.out.trans (hS.1.2.mono HBW.out.size))).mono ?_; rintro e w9 ⟨hb_w9, G, qg, rfl, hg9⟩; refine XPost.mk _ (fun W => IAt W G bs) hb_w9 (hg9.iat) (IAt.cl _ _) ?_); clear hb_w9 hcS hfS hS hF
                intro K hK; go_simp; (try go_bits); refine hK _ ?_; clear hK K
                apply wpQ_callS (i := 13) (by with_reducible (refine List.getElem?_toArray.trans ?_; (repeat (first | exact List.getElem?_cons_zero | refine List.getElem?_cons_succ.trans ?_)))) (by kernel_rfl) (by exact rfl); intro W hF hS; have hcS := hS.1.cells.1; have hfS := hS.1.cells.2; go_simp; (go_at_call 12; refine (KW.out _ _ _ hF).mono ?_; rintro e w10 ⟨hb_w10, H, qh, rfl, hg10⟩; refine XPost.mk _ (fun W => IAt W H [(k : Int)]) hb_w10 (hg10.iat) (IAt.cl _ _) ?_); clear hb_w10 hcS hfS hS hF
                intro K hK; go_simp; (try go_bits); refine hK _ ?_; clear hK K
                apply wpQ_freshS (i := 15) LInv.stdS (by with_reducible (refine List.getElem?_toArray.trans ?_; (repeat (first | exact List.getElem?_cons_zero | refine List.getElem?_cons_succ.trans ?_)))) (by kernel_rfl) (by first | (go_simp; done) | exact rfl | decide) (fun g => Value.slice (some ⟨g, 0, none⟩) 1 1) (by exact rfl); (focus (intro W; go_simp; first | done | exact rfl | exact ⟨rfl, rfl⟩))
                intro g_15 hN_15 hG_15 K hK
                go_simp; refine hK _ ?_; clear hK K
                apply wpQ_callS (i := 16) (by with_reducible (refine List.getElem?_toArray.trans ?_; (repeat (first | exact List.getElem?_cons_zero | refine List.getElem?_cons_succ.trans ?_)))) (by kernel_rfl) (by exact rfl); intro W hF hS; have hcS := hS.1.cells.1; have hfS := hS.1.cells.2; go_simp; (go_at_call 9; refine (KN.out _ _ _ _ _ hF.2 (iat_one (by have hb0 := (hS.2 _ (List.mem_cons_self ..)).2; simp only at hb0; exact hb0))).mono ?_; rintro e w11 ⟨rfl, hb_w11⟩; refine XPost.mk _ (fun W => True) hb_w11 (trivial) (Cl.tt) ?_); clear hb_w11 hcS hfS hS hF
                intro K hK; go_simp; (try go_bits); refine hK _ ?_; clear hK K
                refine wpQI_startS [17, 18] ?_; (iterate 2 (first | (refine wpQI_offS (by with_reducible (refine List.getElem?_toArray.trans ?_; (repeat (first | exact List.getElem?_cons_zero | refine List.getElem?_cons_succ.trans ?_)))) (by kernel_rfl) (by exact rfl) (fun K hK => ?_); go_simp; refine hK _ ?_; clear hK K) | ((first | apply wpQI_stepS (by with_reducible (refine List.getElem?_toArray.trans ?_; (repeat (first | exact List.getElem?_cons_zero | refine List.getElem?_cons_succ.trans ?_)))) (by kernel_rfl) (by exact rfl) | apply wpQI_onS (by with_reducible (refine List.getElem?_toArray.trans ?_; (repeat (first | exact List.getElem?_cons_zero | refine List.getElem?_cons_succ.trans ?_)))) (by kernel_rfl) (by exact rfl)); (focus (intro W' hS; have hcS := hS.cells.1; have hfS := hS.cells.2; go_simp; (first | done | exact rfl | exact ⟨rfl, Below.refl _ _⟩ | (go_simp; first | done | exact rfl | exact ⟨rfl, Below.refl _ _⟩)))); intro K hK; go_simp; (try go_bits); refine hK _ ?_; clear hK K))); refine wpQI_nilS ?_
                refine wpQ_doneS (by kernel_rfl) ?_
                intro w12 hF_w12 hSG
                have hz_w12 := hSG.1.1
                have hb_w12 := hSG.1.2
                clear hSG
                skip
                (try simp only [List.filterMap_nil])
                have HB12 := Lib.hid (HBW.out.trans (hb_w12.mono HBW.out.size))
                clear hb_w12 hF_w12 p0 p1 q0 q1
                go_wp2_with fail
                go_roundw
                case rel => exact ⟨k + 1, by omega, by go_num, by rw [HE1.out], by rw [HE2.out], by rw [HMV'.out], HB12⟩
                case measure => simp [intOf]; omega
            · have hnq : ¬ (x', y') = (x', y) := by simp [hne]
              have HMV' := Lib.hid (show mvd o1 v (k + 1) = true by rw [HMV.out, decide_eq_true hnq]; simp)
              have HFL := Lib.hid (HFI.out hnq)
              clear HMV HFI hnq
              cases mv
              all_goals
                go_wp2_with fail
                refine wp_region_warm (Own w6.heap.size w6) (by kernel_rfl) (by kernel_rfl) (Own.refl (Nat.le_refl _)).drew ?_
                repeat (first | (refine wpWarm_step_off rfl (fun K hK => ?_); (go_simp; refine hK _ ?_; clear hK K)) | (apply wpWarm_step rfl; (focus (intro W' hS; have hcS := hS.cells.1; have hfS := hS.cells.2; go_simp; (first | done | exact rfl | exact ⟨rfl, hS⟩ | (go_simp; exact rfl)))); (intro K hK; go_simp; (try go_bits); refine hK _ ?_; clear hK K)) | (apply wpWarm_step_on rfl; (focus (intro W' hS; have hcS := hS.cells.1; have hfS := hS.cells.2; go_simp; (first | done | exact rfl | exact ⟨rfl, hS⟩ | (go_simp; exact rfl)))); (intro K hK; go_simp; (try go_bits); refine hK _ ?_; clear hK K)))
                (refine wpWarm_nil ?_; intro w7 hO; have hz_w7 := hO.1; have hb_w7 := hO.2; clear hO; skip)
                have HB7 := Lib.hid (HB6.out.trans (hb_w7.mono HB6.out.size))
                have e0 := (hb_w7.cell (p := ⟨g, o + k * 2, none⟩) hg6).trans c0'
                have e1 := (hb_w7.cell (p := ⟨g, o + k * 2 + 1, none⟩) hg6).trans c1'
                have f0 := (hb_w7.cell (p := ⟨g2, o2 + k * 2, none⟩) hg26).trans d0'
                have f1 := (hb_w7.cell (p := ⟨g2, o2 + k * 2 + 1, none⟩) hg26).trans d1'
                have hg7 : g < w7.heap.size := by have := hb_w7.size; omega
                have hg27 : g2 < w7.heap.size := by have := hb_w7.size; omega
                have kw := fun (G : Option Addr) (q : Nat) (w : World) (h : IAt w G bs) => with16_any bs (k : Int) G q w h (by omega)
                rw [HFL.out] at kw
                have KW := Lib.hid kw
                have kn := fun (G H : Option Addr) (q p : Nat) (w : World) h1 h2 => numbers_yes [(k : Int)] G H q p w h1 h2 (by simp)
                have KN := Lib.hid kn
                clear hb_w7 c0' c1' d0' d1' hg6 hg26 kw kn
                go_wp2_with fail
                -- own blocks: 
                (refine pin_wp (N := _) (Nat.le_refl _) (fun w8 hb_w8 hz_w8 => ?_); (try simp at hz_w8); skip); refine wp_region_floatQS w8.heap.size 19 [] (Nat.le_refl _) (fun _ => True) trivial Cl.tt (by kernel_rfl) (by kernel_rfl) ?_
                have HBW := Lib.hid (HB7.out.trans (hb_w8.mono HB7.out.size))
                have p0 := (hb_w8.cell (p := ⟨g, o + k * 2, none⟩) hg7).trans e0
                have p1 := (hb_w8.cell (p := ⟨g, o + k * 2 + 1, none⟩) hg7).trans e1
                have q0 := (hb_w8.cell (p := ⟨g2, o2 + k * 2, none⟩) hg27).trans f0
                have q1 := (hb_w8.cell (p := ⟨g2, o2 + k * 2 + 1, none⟩) hg27).trans f1
                have hg8 : g < w8.heap.size := by have := hb_w8.size; omega
                have hg28 : g2 < w8.heap.size := by have := hb_w8.size; omega
                clear e0 e1 f0 f1 hg7 hg27
                refine wpQI_startS [0, 1, 2, 3, 4, 5, 6, 7, 8, 9, 10] ?_; (iterate 11 (first | (refine wpQI_offS (by with_reducible (refine List.getElem?_toArray.trans ?_; (repeat (first | exact List.getElem?_cons_zero | refine List.getElem?_cons_succ.trans ?_)))) (by kernel_rfl) (by exact rfl) (fun K hK => ?_); go_simp; refine hK _ ?_; clear hK K) | ((first | apply wpQI_stepS (by with_reducible (refine List.getElem?_toArray.trans ?_; (repeat (first | exact List.getElem?_cons_zero | refine List.getElem?_cons_succ.trans ?_)))) (by kernel_rfl) (by exact rfl) | apply wpQI_onS (by with_reducible (refine List.getElem?_toArray.trans ?_; (repeat (first | exact List.getElem?_cons_zero | refine List.getElem?_cons_succ.trans ?_)))) (by kernel_rfl) (by exact rfl)); (focus (intro W' hS; have hcS := hS.cells.1; have hfS := hS.cells.2; go_simp; (first | done | exact rfl | exact ⟨rfl, Below.refl _ _⟩ | (go_simp; first | done | exact rfl | exact ⟨rfl, Below.refl _ _⟩)))); intro K hK; go_simp; (try go_bits); refine hK _ ?_; clear hK K))); refine wpQI_nilS ?_
                refine wpQI_startS [12] ?_; (iterate 1 (first | (refine wpQI_offS (by with_reducible (refine List.getElem?_toArray.trans ?_; (repeat (first | exact List.getElem?_cons_zero | refine List.getElem?_cons_succ.trans ?_)))) (by kernel_rfl) (by exact rfl) (fun K hK => ?_); go_simp; refine hK _ ?_; clear hK K) | ((first | apply wpQI_stepS (by with_reducible (refine List.getElem?_toArray.trans ?_; (repeat (first | exact List.getElem?_cons_zero | refine List.getElem?_cons_succ.trans ?_)))) (by kernel_rfl) (by exact rfl) | apply wpQI_onS (by with_reducible (refine List.getElem?_toArray.trans ?_; (repeat (first | exact List.getElem?_cons_zero | refine List.getElem?_cons_succ.trans ?_)))) (by kernel_rfl) (by exact rfl)); (focus (intro W' hS; have hcS := hS.cells.1; have hfS := hS.cells.2; go_simp; (first | done | exact rfl | exact ⟨rfl, Below.refl _ _⟩ | (go_simp; first | done | exact rfl | exact ⟨rfl, Below.refl _ _⟩)))); intro K hK; go_simp; (try go_bits); refine hK _ ?_; clear hK K))); refine wpQI_nilS ?_
                refine wpQI_startS [14] ?_; (iterate 1 (first | (refine wpQI_offS (by with_reducible (refine List.getElem?_toArray.trans ?_; (repeat (first | exact List.getElem?_cons_zero | refine List.getElem?_cons_succ.trans ?_)))) (by kernel_rfl) (by exact rfl) (fun K hK => ?_); go_simp; refine hK _ ?_; clear hK K) | ((first | apply wpQI_stepS (by with_reducible (refine List.getElem?_toArray.trans ?_; (repeat (first | exact List.getElem?_cons_zero | refine List.getElem?_cons_succ.trans ?_)))) (by kernel_rfl) (by exact rfl) | apply wpQI_onS (by with_reducible (refine List.getElem?_toArray.trans ?_; (repeat (first | exact List.getElem?_cons_zero | refine List.getElem?_cons_succ.trans ?_)))) (by kernel_rfl) (by exact rfl)); (focus (intro W' hS; have hcS := hS.cells.1; have hfS := hS.cells.2; go_simp; (first | done | exact rfl | exact ⟨rfl, Below.refl _ _⟩ | (go_simp; first | done | exact rfl | exact ⟨rfl, Below.refl _ _⟩)))); intro K hK; go_simp; (try go_bits); refine hK _ ?_; clear hK K))); refine wpQI_nilS ?_
                apply wpQ_callS (i := 11) (by with_reducible (refine List.getElem?_toArray.trans ?_; (repeat (first | exact List.getElem?_cons_zero | refine List.getElem?_cons_succ.trans ?_)))) (by kernel_rfl) (by exact rfl); intro W hF hS; have hcS := hS.1.cells.1; have hfS := hS.1.cells.2; go_simp; (go_at_call 13; refine (KB.out _ (HBW.out.trans (hS.1.2.mono HBW.out.size))).mono ?_; rintro e w9 ⟨hb_w9, G, qg, rfl, hg9⟩; refine XPost.mk _ (fun W => IAt W G bs) hb_w9 (hg9.iat) (IAt.cl _ _) ?_); clear hb_w9 hcS hfS hS hF
                intro K hK; go_simp; (try go_bits); refine hK _ ?_; clear hK K
                apply wpQ_callS (i := 13) (by with_reducible (refine List.getElem?_toArray.trans ?_; (repeat (first | exact List.getElem?_cons_zero | refine List.getElem?_cons_succ.trans ?_)))) (by kernel_rfl) (by exact rfl); intro W hF hS; have hcS := hS.1.cells.1; have hfS := hS.1.cells.2; go_simp; (go_at_call 12; refine (KW.out _ _ _ hF).mono ?_; rintro e w10 ⟨hb_w10, H, qh, rfl, hg10⟩; refine XPost.mk _ (fun W => IAt W H [(k : Int)]) hb_w10 (hg10.iat) (IAt.cl _ _) ?_); clear hb_w10 hcS hfS hS hF
                intro K hK; go_simp; (try go_bits); refine hK _ ?_; clear hK K
                apply wpQ_freshS (i := 15) LInv.stdS (by with_reducible (refine List.getElem?_toArray.trans ?_; (repeat (first | exact List.getElem?_cons_zero | refine List.getElem?_cons_succ.trans ?_)))) (by kernel_rfl) (by first | (go_simp; done) | exact rfl | decide) (fun g => Value.slice (some ⟨g, 0, none⟩) 1 1) (by exact rfl); (focus (intro W; go_simp; first | done | exact rfl | exact ⟨rfl, rfl⟩))
                intro g_15 hN_15 hG_15 K hK
                go_simp; refine hK _ ?_; clear hK K
                apply wpQ_callS (i := 16) (by with_reducible (refine List.getElem?_toArray.trans ?_; (repeat (first | exact List.getElem?_cons_zero | refine List.getElem?_cons_succ.trans ?_)))) (by kernel_rfl) (by exact rfl); intro W hF hS; have hcS := hS.1.cells.1; have hfS := hS.1.cells.2; go_simp; (go_at_call 9; refine (KN.out _ _ _ _ _ hF.2 (iat_one (by have hb0 := (hS.2 _ (List.mem_cons_self ..)).2; simp only at hb0; exact hb0))).mono ?_; rintro e w11 ⟨rfl, hb_w11⟩; refine XPost.mk _ (fun W => True) hb_w11 (trivial) (Cl.tt) ?_); clear hb_w11 hcS hfS hS hF
                intro K hK; go_simp; (try go_bits); refine hK _ ?_; clear hK K
                refine wpQI_startS [17, 18] ?_; (iterate 2 (first | (refine wpQI_offS (by with_reducible (refine List.getElem?_toArray.trans ?_; (repeat (first | exact List.getElem?_cons_zero | refine List.getElem?_cons_succ.trans ?_)))) (by kernel_rfl) (by exact rfl) (fun K hK => ?_); go_simp; refine hK _ ?_; clear hK K) | ((first | apply wpQI_stepS (by with_reducible (refine List.getElem?_toArray.trans ?_; (repeat (first | exact List.getElem?_cons_zero | refine List.getElem?_cons_succ.trans ?_)))) (by kernel_rfl) (by exact rfl) | apply wpQI_onS (by with_reducible (refine List.getElem?_toArray.trans ?_; (repeat (first | exact List.getElem?_cons_zero | refine List.getElem?_cons_succ.trans ?_)))) (by kernel_rfl) (by exact rfl)); (focus (intro W' hS; have hcS := hS.cells.1; have hfS := hS.cells.2; go_simp; (first | done | exact rfl | exact ⟨rfl, Below.refl _ _⟩ | (go_simp; first | done | exact rfl | exact ⟨rfl, Below.refl _ _⟩)))); intro K hK; go_simp; (try go_bits); refine hK _ ?_; clear hK K))); refine wpQI_nilS ?_
                refine wpQ_doneS (by kernel_rfl) ?_
                intro w12 hF_w12 hSG
                have hz_w12 := hSG.1.1
                have hb_w12 := hSG.1.2
                clear hSG
                skip
                (try simp only [List.filterMap_nil])
                have HB12 := Lib.hid (HBW.out.trans (hb_w12.mono HBW.out.size))
                clear hb_w12 hF_w12 p0 p1 q0 q1
                go_wp2_with fail
                go_roundw
                case rel => exact ⟨k + 1, by omega, by go_num, by rw [HE1.out], by rw [HE2.out], by rw [HMV'.out], HB12⟩
                case measure => simp [intOf]; omega
          · obtain rfl : k = v.length := by omega
            have hen := HK.out.en
            have hch := HK.out.ch
            rw [← hch]
            have HB6 := Lib.hid HB5.out
            generalize enTo v v.length = ev at *
            generalize enTo o1 v.length = eo at *
            clear hch hev heo
            go_wp2_with fail
            go_ret
            exact ⟨rfl, HB6.out⟩
end Go.Proofs.Ytgejdaincnclpaa
namespace Go.Proofs.Ytgejdaincnclpaa
open Go Go.ChangeShapes Go.WideShapes Go.ChangeAt Go.RowKit
set_option linter.unusedVariables false
/-- The j-th argument is a slice: its length times the bytes of an element is within the reach. -/
theorem trod_sized {H : Type} {enc : TypeId × Value → H} {P : Program} {w : World} {base : Nat} {spare : Nat → Bool} {held : Bool} {fuel : Nat} {t e : TypeId} {A : Option Addr} {len cap j : Nat} {d : DataW H} {p : List MemPlace} {ts : List TypeId} {ds : List (DataW H)}
    (hu : P.underlying t = some (.slice e)) (h : DataW.trod enc P w base spare held fuel t [.slice A len cap] = some (d, p)) (hs : (DataW.weightsEach P ts ds).all (· ≤ reachBytes) = true) (ht : ts[j]? = some t) (hd : ds[j]? = some d) : len * P.bytesOf e ≤ reachBytes := by
  rcases DataW.trod_slice hu h with ⟨h0, _⟩ | ⟨a, len', cap', elems, rest, m, hm, hcs, hx, _, hlc, hcap, hel, hat, _⟩
  · simp only [List.cons.injEq, Value.slice.injEq, and_true] at h0
    rw [h0.2.1]; omega
  · simp only [List.cons.injEq, Value.slice.injEq, and_true] at hcs
    obtain ⟨rfl, rfl, rfl⟩ := hcs
    simp only [Prod.mk.injEq] at hx
    have h1 := sized_slice hs ht (by rw [hd, hx.1]) hu
    rw [List.length_map, List.length_map, hel] at h1
    exact Nat.le_trans (Nat.mul_le_mul_right _ (by omega)) h1
end Go.Proofs.Ytgejdaincnclpaa
namespace Go.Proofs.Ytgejdaincnclpaa.lawCE
open Go.ChangeShapes Go.WideShapes Go.ChangeAt Go.RowKit
set_option linter.unusedVariables false
theorem bytes_meeting : Try.prog.bytesOf 34 = 80 := by kernel_rfl
theorem walk (w : World) (a0 : Option Addr) (len0 cap0 n0 : Nat) (w0 : RowIs Try.prog w n0 29 [.slice a0 len0 cap0]) (z0 : len0 * Try.prog.bytesOf 34 ≤ reachBytes) (a1 : Option Addr) (len1 cap1 n1 : Nat) (w1 : RowIs Try.prog w n1 30 [.slice a1 len1 cap1]) :
    Calls Try.prog 4 #[.slice a0 len0 cap0, .slice a1 len1 cap1] w fun e w' => e = .returned (.bool true) ∧ Below w.heap.size w w' := by
  obtain ⟨hm, l, rfl, hM, _⟩ := meetings_open w0
  obtain ⟨_, v, rfl, hV, _⟩ := vs_open w1
  rw [bytes_meeting] at z0
  exact energy_law l a0 cap0 v a1 cap1 w hM hV (Nat.le_trans z0 (by decide))
theorem own : ownKnob Try.prog.godebug = none := by kernel_rfl
theorem laidOut : laidOutB Try.prog = true := by kernel_rfl
set_option maxRecDepth 100000 in
theorem lifted (os : Os) (started : os.Started) (H : Type) (enc : TypeId × Value → H) :
    ReturnsInHanded {} Try.checked os 4 .any (Rows.clusterEnergySpec.pre6 enc Try.prog Try.f4 Rows.clusterEnergyRow.domain false) (Rows.clusterEnergySpec.post enc Try.prog Try.f4 false true false false) := by
  refine returnsInHanded_of_change_sized (C := Try.checked) own started (by kernel_rfl) Try.func4
    (ChangeSpec.witness6 (enc := enc) (C := Try.checked) false ⟨#[], #[.slice none 0 0, .slice none 0 0], []⟩ 8 (by kernel_rfl) (by kernel_rfl) (by kernel_rfl) (by kernel_rfl)) ?_
  intro W base args ds gs before hval0 hW hcnd hsz0 _
  have hval : ∀ (j : Nat) t v, Try.f4.params[j]? = some t → args[j]? = some v → Value.okWide Try.prog W .any base t v := hval0
  have hW' := hW
  obtain ⟨p, q, hA0, hV, rfl, hfz, hnd⟩ := hW
  have hA : DataW.TrodAll enc Try.prog W 0 (fun _ => true) true Try.f4.params.toList args.toList ds p := hA0
  rw [Try.params4] at hA hval
  have hsz := hsz0
  rw [Try.params4] at hsz
  obtain ⟨v0, vs0, d0, ds0, p0, q0, hargs, rfl, rfl, h0, r0⟩ := trodAll_cons hA
  obtain ⟨v1, vs1, d1, ds1, p1, q1, rfl, rfl, rfl, h1, r1⟩ := trodAll_cons r0
  obtain ⟨rfl, rfl, rfl⟩ := trodAll_nil r1
  obtain rfl : args = #[v0, v1] := by cases args; simp_all
  obtain ⟨rfl, rfl⟩ := trodVars_none hV
  obtain ⟨a0, len0, cap0, rfl⟩ := okWide_slice Try.underlying29 (hval 0 29 v0 rfl rfl)
  have k0 := h0
  have lt0 : ∀ x ∈ p0, x.block < W.heap.size := by obtain ⟨m, hm⟩ := k0; exact DataW.trod_lt m _ _ _ hm
  obtain ⟨n0, w0⟩ : ∃ n, RowIs Try.prog W n 29 [.slice a0 len0 cap0] := by obtain ⟨fuel, hf⟩ := h0; exact ⟨fuel, rowIs_of_trod fuel _ _ _ hf⟩
  have z0 : len0 * Try.prog.bytesOf 34 ≤ reachBytes := by obtain ⟨fuel, hf⟩ := h0; exact trod_sized (j := 0) Try.underlying29 hf hsz rfl rfl
  obtain ⟨a1, len1, cap1, rfl⟩ := okWide_slice Try.underlying30 (hval 1 30 v1 rfl rfl)
  have k1 := h1
  have lt1 : ∀ x ∈ p1, x.block < W.heap.size := by obtain ⟨m, hm⟩ := k1; exact DataW.trod_lt m _ _ _ hm
  obtain ⟨n1, w1⟩ : ∃ n, RowIs Try.prog W n 30 [.slice a1 len1 cap1] := by obtain ⟨fuel, hf⟩ := h1; exact ⟨fuel, rowIs_of_trod fuel _ _ _ hf⟩
  clear hA0 hval0
  refine (walk W a0 len0 cap0 n0 w0 z0 a1 len1 cap1 n1 w1).mono fun e W' ⟨he, bel⟩ => ?_
  subst he
  exact ⟨_, rfl, _, _, _, [], _, [], hW', trodAll_mk1 (shut_bool Try.underlying4 _), (trodAll_cons_mk (Below.trod laidOut (by kernel_rfl) (of_decide_eq_true (by kernel_rfl)) k0 bel lt0) (trodAll_cons_mk (Below.trod laidOut (by kernel_rfl) (of_decide_eq_true (by kernel_rfl)) k1 bel lt1) trodAll_mk0)), rfl, bel.frame _, fun h => by cases h⟩
theorem over : Rows.clusterEnergyRow.holds Try.pinned (OpenSpec.ofChange Rows.clusterEnergySpec) :=
  OpenClaim.holds_of_wide 4 Try.f4 rfl rfl rfl rfl rfl rfl rfl ⟨rfl, rfl, rfl, rfl, rfl⟩ rfl rfl rfl rfl rfl (by kernel_rfl) Try.func4 (by kernel_rfl)
    (of_decide_eq_true (by kernel_rfl)) (by unfold Func.isWrapper; first | (rw [if_pos (by decide +kernel)]; kernel_rfl) | (rw [if_neg (by decide +kernel)]; exact ⟨rfl, rfl⟩))
    (fun os started H enc _ => lifted os started H enc)
theorem proved : Rows.ClusterEnergySaid := over
#print axioms proved
end Go.Proofs.Ytgejdaincnclpaa.lawCE
