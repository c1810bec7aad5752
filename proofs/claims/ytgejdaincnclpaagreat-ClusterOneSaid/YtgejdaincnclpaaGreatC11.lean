/- Law ClusterOne returns true for every list of meetings and every list of vectors; each argument reads afterwards as it read before. No conditions. Merged texts: Open OpenV OpenVs OpenL ClO RsP ClS ClM ClY ClZ ClZw LawC1 (what no proof of the claim needs is left out). -/
import Derived.Test.YtgejdaincnclpaaGreatCg9
import Derived.ProofKit
import Derived.OpenShut
import Derived.ChangeOld
import Derived.Below
import Derived.Carry
import Derived.Test.YtgejdaincnclpaaGreatProg
import Derived.KernelRfl
import Derived.Test.YtgejdaincnclpaaGreatShelfS
import Derived.Sort.Grow
import Derived.Lib.SlicesCompact
import Derived.Test.YtgejdaincnclpaaGreatRows
namespace Go.Proofs.YtgejdaincnclpaaGreat
open Go Go.ChangeShapes Go.WideShapes Go.ChangeAt Go.RowKit
def RowIs (P : Program) (w : World) : Nat → TypeId → List Value → Prop
  | 0, _, _ => False
  | n + 1, t, cs =>
    match P.underlying t with
    | some (.int k) => ∃ z, cs = [.int k z] ∧ (Lit.int k z).wf = true
    | some .bool => ∃ b, cs = [.bool b]
    | some .string => ∃ s : ByteArray, cs = [.string s] ∧ s.size ≤ maxLen
    | some (.struct fs) => cs.length = P.cellsOf t ∧ ∀ f ∈ fs.toList, RowIs P w n f.type ((cs.drop f.offset).take (P.cellsOf f.type))
    | some (.slice e) => cs = [.slice none 0 0] ∨ ∃ (a : Addr) (len cap : Nat), cs = [.slice (some a) len cap] ∧ len ≤ cap ∧ cap ≤ maxLen ∧
        ∀ i, i < len → ∃ row, row.length = P.cellsOf e ∧ (∀ j v, row[j]? = some v → w.cell? (a.add (i * P.cellsOf e + j)) = some v) ∧ RowIs P w n e row
    | _ => True
section
variable {H : Type} {enc : TypeId × Value → H} {P : Program} {w : World}
theorem cells_at {base : Nat} {a : Addr} {n : Nat} {row : List Value} (h : w.cells? base a n = some row) : row.length = n ∧ ∀ j v, row[j]? = some v → w.cell? (a.add j) = some v := by
  unfold World.cells? at h
  split at h
  · have hl := mapM_some_length h
    simp at hl
    refine ⟨hl, fun j v hj => ?_⟩
    have hlt : j < n := by rw [← hl]; exact (List.getElem?_eq_some_iff.1 hj).1
    have := mapM_some_get h j j (by simp [hlt])
    rw [this, hj]
  · cases h
theorem add_add' (a : Addr) (i j : Nat) : (a.add i).add j = a.add (i + j) := by
  unfold Addr.add
  by_cases hi : i = 0 <;> by_cases hj : j = 0 <;> simp [hi, hj, Nat.add_assoc]
theorem rowIs_of_trod {base : Nat} {spare : Nat → Bool} {held : Bool} : ∀ (fuel : Nat) (t : TypeId) (cs : List Value) (x : DataW H × List MemPlace), DataW.trod enc P w base spare held fuel t cs = some x → RowIs P w fuel t cs := by
  intro fuel
  induction fuel with
  | zero => intro t cs x h; simp [DataW.trod] at h
  | succ n ih =>
    intro t cs x h
    cases hu : P.underlying t with
    | none => simp only [RowIs, hu]
    | some d =>
      cases d with
      | bool => obtain ⟨b, hb, _⟩ := DataW.trod_bool hu h; simp only [RowIs, hu]; exact ⟨b, hb⟩
      | int k => obtain ⟨z, hz, _, hw⟩ := DataW.trod_int hu h; simp only [RowIs, hu]; exact ⟨z, hz, hw⟩
      | string => obtain ⟨s, hs, _, hw⟩ := DataW.trod_string hu h; simp only [RowIs, hu]; exact ⟨s, hs, hw⟩
      | struct fs =>
        obtain ⟨xs, m, hm, _, hl, hxl, hf⟩ := DataW.trod_struct hu h
        obtain rfl : m = n := by omega
        simp only [RowIs, hu]
        refine ⟨hl, fun f hfm => ?_⟩
        obtain ⟨i, hi⟩ := List.getElem?_of_mem hfm
        have h1 := hf i f (by simpa using hi)
        have hlt : i < xs.length := by rw [hxl]; have := (List.getElem?_eq_some_iff.1 hi).1; simpa using this
        rw [List.getElem?_eq_getElem hlt] at h1
        exact ih _ _ _ h1
      | slice e =>
        simp only [RowIs, hu]
        rcases DataW.trod_slice hu h with ⟨h0, _⟩ | ⟨a, len, cap, elems, rest, m, hm, hcs, _, _, hlc, hcap, hel, hat, _⟩
        · exact .inl h0
        · obtain rfl : m = n := by omega
          refine .inr ⟨a, len, cap, hcs, hlc, hcap, fun i hi => ?_⟩
          have h1 := hat i hi
          have hlt : i < elems.length := by omega
          rw [List.getElem?_eq_getElem hlt] at h1
          obtain ⟨row, hr, ht⟩ := Option.bind_eq_some_iff.1 h1
          obtain ⟨hl, hc⟩ := cells_at hr
          exact ⟨row, hl, fun j v hj => by rw [← add_add']; exact hc j v hj, ih _ _ _ ht⟩
      | _ => simp only [RowIs, hu]
theorem rowIs_int {n : Nat} {t : TypeId} {k : IntKind} {cs : List Value} (hu : P.underlying t = some (.int k)) (h : RowIs P w n t cs) : ∃ z, cs = [.int k z] ∧ (Lit.int k z).wf = true := by
  cases n with
  | zero => exact h.elim
  | succ n => simpa only [RowIs, hu] using h
theorem rowIs_struct {n : Nat} {t : TypeId} {fs : Array Field} {cs : List Value} (hu : P.underlying t = some (.struct fs)) (h : RowIs P w n t cs) :
    cs.length = P.cellsOf t ∧ ∃ m, ∀ f ∈ fs.toList, RowIs P w m f.type ((cs.drop f.offset).take (P.cellsOf f.type)) := by
  cases n with
  | zero => exact h.elim
  | succ n => simp only [RowIs, hu] at h; exact ⟨h.1, n, h.2⟩
theorem rowIs_slice {n : Nat} {t e : TypeId} {cs : List Value} (hu : P.underlying t = some (.slice e)) (h : RowIs P w n t cs) :
    cs = [.slice none 0 0] ∨ ∃ (a : Addr) (len cap m : Nat), cs = [.slice (some a) len cap] ∧ len ≤ cap ∧ cap ≤ maxLen ∧
        ∀ i, i < len → ∃ row, row.length = P.cellsOf e ∧ (∀ j v, row[j]? = some v → w.cell? (a.add (i * P.cellsOf e + j)) = some v) ∧ RowIs P w m e row := by
  cases n with
  | zero => exact h.elim
  | succ n =>
    simp only [RowIs, hu] at h
    rcases h with h | ⟨a, len, cap, h1, h2, h3, h4⟩
    · exact .inl h
    · exact .inr ⟨a, len, cap, n, h1, h2, h3, h4⟩
theorem len1 {α : Type} {l : List α} (h : l.length = 1) : ∃ a, l = [a] := by
  match l, h with
  | [a], _ => exact ⟨a, rfl⟩
theorem len2 {α : Type} {l : List α} (h : l.length = 2) : ∃ a b, l = [a, b] := by
  match l, h with
  | [a, b], _ => exact ⟨a, b, rfl⟩
theorem all2 {α : Type} {p : α → Prop} {a b : α} (h : ∀ x ∈ (#[a, b] : Array α).toList, p x) : p a ∧ p b := ⟨h a (by simp), h b (by simp)⟩
theorem wf_bd {z : Int} (h : (Lit.int .i64 z).wf = true) : -9223372036854775808 ≤ z ∧ z ≤ 9223372036854775807 := by
  simp [Lit.wf, IntKind.min, IntKind.max, IntKind.signed, IntKind.bits] at h
  omega
end
end Go.Proofs.YtgejdaincnclpaaGreat
namespace Go.Proofs.YtgejdaincnclpaaGreat
open Go
def Bd (z : Int) : Prop := -9223372036854775808 ≤ z ∧ z ≤ 9223372036854775807
theorem cells_int : Tryz.prog.cellsOf 3 = 1 := by kernel_rfl
theorem cells_vec : Tryz.prog.cellsOf 38 = 2 := by kernel_rfl
theorem row_vec {w : World} {n : Nat} {cs : List Value} (h : RowIs Tryz.prog w n 38 cs) : ∃ x y : Int, cs = [.int .i64 x, .int .i64 y] ∧ Bd x ∧ Bd y := by
  obtain ⟨hl, m, hf⟩ := rowIs_struct Tryz.underlying38 h
  rw [cells_vec] at hl
  obtain ⟨c0, c1, rfl⟩ := len2 hl
  obtain ⟨h0, h1⟩ := all2 hf
  simp only [cells_int, List.drop_zero, List.drop_succ_cons, List.take_succ_cons, List.take_zero] at h0 h1
  obtain ⟨x, hx, wx⟩ := rowIs_int Tryz.underlying3 h0
  obtain ⟨y, hy, wy⟩ := rowIs_int Tryz.underlying3 h1
  simp only [List.cons.injEq, and_true] at hx hy
  exact ⟨x, y, by rw [hx, hy], wf_bd wx, wf_bd wy⟩
end Go.Proofs.YtgejdaincnclpaaGreat
namespace Go.Proofs.YtgejdaincnclpaaGreat
open Go
theorem vs_open {w : World} {n : Nat} {A : Option Addr} {len cap : Nat} (h : RowIs Tryz.prog w n 23 [.slice A len cap]) :
    len ≤ maxLen ∧ ∃ l : List V2, l.length = len ∧ VAt w A l ∧ ∀ x ∈ l, Bd x.1 ∧ Bd x.2 := by
  have none0 : len = 0 → len ≤ maxLen ∧ ∃ l : List V2, l.length = len ∧ VAt w A l ∧ ∀ x ∈ l, Bd x.1 ∧ Bd x.2 := fun h0 => by
    subst h0
    exact ⟨by unfold maxLen; omega, [], rfl, VAt.nil _ _, by simp⟩
  rcases rowIs_slice Tryz.underlying23 h with h0 | ⟨a, len', cap', m, hcs, hlc, hcap, hrows⟩
  · simp only [List.cons.injEq, Value.slice.injEq, and_true] at h0
    exact none0 h0.2.1
  · simp only [List.cons.injEq, Value.slice.injEq, and_true] at hcs
    obtain ⟨rfl, rfl, rfl⟩ := hcs
    rcases Nat.eq_zero_or_pos len with h0 | h0
    · exact none0 h0
    · refine ⟨by omega, ?_⟩
      have hr : ∀ i, i < len → ∃ x : V2, (Bd x.1 ∧ Bd x.2) ∧ ∀ j v, [Value.int .i64 x.1, .int .i64 x.2][j]? = some v → w.cell? (a.add (i * 2 + j)) = some v := by
        intro i hi
        obtain ⟨row, hl, hc, hrow⟩ := hrows i hi
        obtain ⟨x, y, rfl, hs⟩ := row_vec hrow
        rw [cells_vec] at hc
        exact ⟨(x, y), hs, hc⟩
      obtain ⟨x0, _, hx0⟩ := hr 0 h0
      have hc0 := hx0 0 _ rfl
      obtain ⟨g, o, spot⟩ := a
      have hsp : spot = none := by simpa [Addr.add] using World.cell?_spot hc0
      subst hsp
      have hg : g < w.heap.size := by
        have := World.block_lt_of_cell? w _ hc0
        simpa [Addr.add] using this
      clear hc0 hx0
      have build : ∀ m, m ≤ len → ∃ l : List V2, l.length = m ∧ (∀ k x, l[k]? = some x → (Bd x.1 ∧ Bd x.2) ∧ ∀ j v, [Value.int .i64 x.1, .int .i64 x.2][j]? = some v → w.cell? ((⟨g, o, none⟩ : Addr).add (k * 2 + j)) = some v) := by
        intro m
        induction m with
        | zero => intro _; exact ⟨[], rfl, fun k x h => by simp at h⟩
        | succ m ih =>
          intro hm
          obtain ⟨l, hl, hp⟩ := ih (by omega)
          obtain ⟨x, hx⟩ := hr m (by omega)
          refine ⟨l ++ [x], by simp [hl], fun k y hk => ?_⟩
          rcases Nat.lt_or_ge k l.length with h | h
          · rw [List.getElem?_append_left h] at hk; exact hp k y hk
          · rw [List.getElem?_append_right h] at hk
            have hk0 : k = m := by
              have := (List.getElem?_eq_some_iff.1 hk).1
              simp at this; omega
            subst hk0
            rw [hl, Nat.sub_self] at hk
            simp only [List.getElem?_cons_zero, Option.some.injEq] at hk
            subst hk
            exact hx
      obtain ⟨l, hl, hp⟩ := build len (Nat.le_refl _)
      have hadd : ∀ j, (⟨g, o, none⟩ : Addr).add j = ⟨g, o + j, none⟩ := by intro j; unfold Addr.add; split <;> simp_all
      refine ⟨l, hl, fun k x hx => ⟨g, o, rfl, hg, ?_, ?_⟩, fun x hx => ?_⟩
      · have := (hp k x hx).2 0 _ rfl; rwa [hadd, Nat.add_zero] at this
      · have := (hp k x hx).2 1 _ rfl; rwa [hadd, ← Nat.add_assoc] at this
      · obtain ⟨k, hk⟩ := List.getElem?_of_mem hx
        exact (hp k x hk).1
end Go.Proofs.YtgejdaincnclpaaGreat
namespace Go.Proofs.YtgejdaincnclpaaGreat
open Go Go.RowKit
theorem slice_open {α : Type} {w : World} {n : Nat} {t e : TypeId} {A : Option Addr} {len cap size : Nat} (hu : Tryz.prog.underlying t = some (.slice e)) (h : RowIs Tryz.prog w n t [.slice A len cap]) (hc : Tryz.prog.cellsOf e = size)
    (cells : α → List Value) (ok : α → Prop) (hpos : ∀ x, ∃ v r, cells x = v :: r) (hrow : ∀ m row, RowIs Tryz.prog w m e row → ∃ x, ok x ∧ row = cells x) :
    len ≤ maxLen ∧ ∃ l : List α, l.length = len ∧ (∀ x ∈ l, ok x) ∧ ∀ k x, l[k]? = some x → ∃ g o, A = some ⟨g, o, none⟩ ∧ g < w.heap.size ∧ ∀ j v, (cells x)[j]? = some v → w.cell? ⟨g, o + (k * size + j), none⟩ = some v := by
  have none0 : len = 0 → len ≤ maxLen ∧ ∃ l : List α, l.length = len ∧ (∀ x ∈ l, ok x) ∧ ∀ k x, l[k]? = some x → ∃ g o, A = some ⟨g, o, none⟩ ∧ g < w.heap.size ∧ ∀ j v, (cells x)[j]? = some v → w.cell? ⟨g, o + (k * size + j), none⟩ = some v := fun h0 => by
    subst h0
    exact ⟨by unfold maxLen; omega, [], rfl, by simp, fun k x h => by simp at h⟩
  rcases rowIs_slice hu h with h0 | ⟨a, len', cap', m, hcs, hlc, hcap, hrows⟩
  · simp only [List.cons.injEq, Value.slice.injEq, and_true] at h0
    exact none0 h0.2.1
  · simp only [List.cons.injEq, Value.slice.injEq, and_true] at hcs
    obtain ⟨rfl, rfl, rfl⟩ := hcs
    rcases Nat.eq_zero_or_pos len with h0 | h0
    · exact none0 h0
    · refine ⟨by omega, ?_⟩
      have hr : ∀ i, i < len → ∃ x : α, ok x ∧ ∀ j v, (cells x)[j]? = some v → w.cell? (a.add (i * size + j)) = some v := by
        intro i hi
        obtain ⟨row, hl, hc', hrw⟩ := hrows i hi
        obtain ⟨x, hx, rfl⟩ := hrow _ _ hrw
        rw [hc] at hc'
        exact ⟨x, hx, hc'⟩
      obtain ⟨x0, _, hx0⟩ := hr 0 h0
      obtain ⟨v0, r0, e0⟩ := hpos x0
      have hc0 := hx0 0 v0 (by rw [e0]; rfl)
      obtain ⟨g, o, spot⟩ := a
      have hsp : spot = none := by simpa [Addr.add] using World.cell?_spot hc0
      subst hsp
      have hg : g < w.heap.size := by
        have := World.block_lt_of_cell? w _ hc0
        simpa [Addr.add] using this
      clear hc0 hx0 e0
      have build : ∀ m, m ≤ len → ∃ l : List α, l.length = m ∧ (∀ k x, l[k]? = some x → ok x ∧ ∀ j v, (cells x)[j]? = some v → w.cell? ((⟨g, o, none⟩ : Addr).add (k * size + j)) = some v) := by
        intro m
        induction m with
        | zero => intro _; exact ⟨[], rfl, fun k x h => by simp at h⟩
        | succ m ih =>
          intro hm
          obtain ⟨l, hl, hp⟩ := ih (by omega)
          obtain ⟨x, hx⟩ := hr m (by omega)
          refine ⟨l ++ [x], by simp [hl], fun k y hk => ?_⟩
          rcases Nat.lt_or_ge k l.length with h | h
          · rw [List.getElem?_append_left h] at hk; exact hp k y hk
          · rw [List.getElem?_append_right h] at hk
            have hk0 : k = m := by
              have := (List.getElem?_eq_some_iff.1 hk).1
              simp at this; omega
            subst hk0
            rw [hl, Nat.sub_self] at hk
            simp only [List.getElem?_cons_zero, Option.some.injEq] at hk
            subst hk
            exact hx
      obtain ⟨l, hl, hp⟩ := build len (Nat.le_refl _)
      have hadd : ∀ j, (⟨g, o, none⟩ : Addr).add j = ⟨g, o + j, none⟩ := by intro j; unfold Addr.add; split <;> simp_all
      refine ⟨l, hl, fun x hx => ?_, fun k x hx => ⟨g, o, rfl, hg, fun j v hj => ?_⟩⟩
      · obtain ⟨k, hk⟩ := List.getElem?_of_mem hx
        exact (hp k x hk).1
      · have := (hp k x hx).2 j v hj; rwa [hadd] at this
end Go.Proofs.YtgejdaincnclpaaGreat
namespace Go.Proofs.YtgejdaincnclpaaGreat
open Go Go.RowKit
def Mt.bd (m : Mt) : Prop := (Bd m.a ∧ Bd m.b) ∧ (Bd m.n1 ∧ Bd m.n2) ∧ (Bd m.w1 ∧ Bd m.w2) ∧ (Bd m.k1 ∧ Bd m.k2) ∧ Bd m.e ∧ Bd m.g
theorem cells_meeting : Tryz.prog.cellsOf 40 = 10 := by kernel_rfl
theorem len10 {α : Type} {l : List α} (h : l.length = 10) : ∃ a b c d e f g i j k, l = [a, b, c, d, e, f, g, i, j, k] := by
  match l, h with
  | [a, b, c, d, e, f, g, i, j, k], _ => exact ⟨a, b, c, d, e, f, g, i, j, k, rfl⟩
theorem all7 {α : Type} {p : α → Prop} {a b c d e f g : α} (h : ∀ x ∈ (#[a, b, c, d, e, f, g] : Array α).toList, p x) : p a ∧ p b ∧ p c ∧ p d ∧ p e ∧ p f ∧ p g := ⟨h a (by simp), h b (by simp), h c (by simp), h d (by simp), h e (by simp), h f (by simp), h g (by simp)⟩
theorem row_meeting {w : World} {n : Nat} {cs : List Value} (h : RowIs Tryz.prog w n 40 cs) : ∃ x : Mt, x.bd ∧ cs = x.cells := by
  obtain ⟨hl, m, hf⟩ := rowIs_struct Tryz.underlying40 h
  rw [cells_meeting] at hl
  obtain ⟨c0, c1, c2, c3, c4, c5, c6, c7, c8, c9, rfl⟩ := len10 hl
  obtain ⟨h0, h1, h2, h3, h4, h5, h6⟩ := all7 hf
  simp only [cells_int, cells_vec, List.drop_zero, List.drop_succ_cons, List.take_succ_cons, List.take_zero] at h0 h1 h2 h3 h4 h5 h6
  obtain ⟨z0, e0, w0⟩ := rowIs_int Tryz.underlying3 h0
  obtain ⟨z1, e1, w1⟩ := rowIs_int Tryz.underlying3 h1
  obtain ⟨x2, y2, e2, b2, d2⟩ := row_vec h2
  obtain ⟨x3, y3, e3, b3, d3⟩ := row_vec h3
  obtain ⟨x4, y4, e4, b4, d4⟩ := row_vec h4
  obtain ⟨z5, e5, w5⟩ := rowIs_int Tryz.underlying3 h5
  obtain ⟨z6, e6, w6⟩ := rowIs_int Tryz.underlying3 h6
  simp only [List.cons.injEq, and_true] at e0 e1 e2 e3 e4 e5 e6
  exact ⟨⟨z0, z1, x2, y2, x3, y3, x4, y4, z5, z6⟩, ⟨⟨wf_bd w0, wf_bd w1⟩, ⟨b2, d2⟩, ⟨b3, d3⟩, ⟨b4, d4⟩, wf_bd w5, wf_bd w6⟩, by rw [e0, e1, e2.1, e2.2, e3.1, e3.2, e4.1, e4.2, e5, e6]; rfl⟩
theorem meetings_open {w : World} {n : Nat} {A : Option Addr} {len cap : Nat} (h : RowIs Tryz.prog w n 22 [.slice A len cap]) : len ≤ maxLen ∧ ∃ l : List Mt, l.length = len ∧ MAt w A l ∧ ∀ x ∈ l, x.bd := by
  obtain ⟨h1, l, hl, hok, hp⟩ := slice_open Tryz.underlying22 h cells_meeting Mt.cells Mt.bd (fun x => ⟨_, _, rfl⟩) (fun m row hr => row_meeting hr)
  refine ⟨h1, l, hl, fun k x hx => ?_, hok⟩
  obtain ⟨g, o, hA, hg, hc⟩ := hp k x hx
  have c0 := hc 0 _ rfl
  have c1 := hc 1 _ rfl
  have c2 := hc 2 _ rfl
  have c3 := hc 3 _ rfl
  have c4 := hc 4 _ rfl
  have c5 := hc 5 _ rfl
  have c6 := hc 6 _ rfl
  have c7 := hc 7 _ rfl
  have c8 := hc 8 _ rfl
  have c9 := hc 9 _ rfl
  simp only [← Nat.add_assoc, Nat.add_zero] at c0 c1 c2 c3 c4 c5 c6 c7 c8 c9
  exact ⟨g, o, hA, hg, c0, c1, c2, c3, c4, c5, c6, c7, c8, c9⟩
end Go.Proofs.YtgejdaincnclpaaGreat
namespace Go.Proofs.YtgejdaincnclpaaGreat
open Go Go.RowKit
set_option linter.unusedVariables false
theorem sumR_lens {a b : Int × Int × Int} (ha : Lens a) (hb : Lens b) (hd : 0 < a.2.2 * b.2.2) : 0 < (sumR a b).2.2 ∧ (canN (sumR a b).1.natAbs).length ≤ 30 ∧ (canN (sumR a b).2.1.natAbs).length ≤ 30 ∧ (canN (sumR a b).2.2.natAbs).length ≤ 30 := by
  obtain ⟨h1, h2, h3⟩ := ha
  obtain ⟨g1, g2, g3⟩ := hb
  exact lowR_bd (n := 30) hd (len_up (len_add (len_mul h1 g3) (len_mul g1 h3)) (by omega)) (len_up (len_add (len_mul h2 g3) (len_mul g2 h3)) (by omega)) (len_up (len_mul h3 g3) (by omega))
end Go.Proofs.YtgejdaincnclpaaGreat
namespace Go.Proofs.YtgejdaincnclpaaGreat
open Go Go.RowKit
set_option linter.unusedVariables false
theorem setI_congr {l r : List Int} (h : ∀ x, x ∈ l ↔ x ∈ r) : setI l = setI r := setI_eq (setI_asc r) fun x => (h x).trans (setI_mem r x).symm
end Go.Proofs.YtgejdaincnclpaaGreat
namespace Go.Proofs.YtgejdaincnclpaaGreat
open Go Go.RowKit
set_option linter.unusedVariables false
theorem mem_ballsL {l : List Mt} {x : Int} : x ∈ ballsL l ↔ ∃ m ∈ l, x ∈ (if m.b = -1 then [m.a] else [m.a, m.b]) := by
  unfold ballsL; rw [List.mem_flatMap]
theorem putV_congr {l r : List Mt} {v : List V2} : ∀ {bs : List Int} {o : List V2}, (∀ b ∈ bs, newV l v b = newV r v b) → putV l v bs o = putV r v bs o
  | [], o, _ => rfl
  | b :: bs, o, h => by
    show putV l v bs (o.set b.toNat (newV l v b)) = putV r v bs (o.set b.toNat (newV r v b))
    rw [h b (by simp)]
    exact putV_congr fun x hx => h x (List.mem_cons_of_mem _ hx)
theorem chgV_congr {l r : List Mt} {v : List V2} {bs : List Int} (h : ∀ b ∈ bs, newV l v b = newV r v b) : chgV l v bs = chgV r v bs := by
  unfold chgV
  rw [Bool.eq_iff_iff, List.any_eq_true, List.any_eq_true]
  constructor
  · rintro ⟨b, hb, hx⟩; exact ⟨b, hb, by rw [← h b hb]; exact hx⟩
  · rintro ⟨b, hb, hx⟩; exact ⟨b, hb, by rw [h b hb]; exact hx⟩
theorem resR_ok {l : List Mt} {v : List V2} (h : (resR l v).2.2 = 0) : ¬ (16 < l.length ∨ 64 < v.length) ∧ v.all (nearB 1048576) = true ∧ (∀ m ∈ l, PermM m v.length) := by
  unfold resR at h
  split at h
  · simp at h
  · rename_i h1
    split at h
    · rename_i h2
      exact ⟨h1, h2.1, fun m hm => permM_iff.1 (List.all_eq_true.1 h2.2 m hm)⟩
    · simp at h
theorem resR_val {l : List Mt} {v : List V2} (h1 : ¬ (16 < l.length ∨ 64 < v.length)) (hv : v.all (nearB 1048576) = true) (hp : ∀ m ∈ l, PermM m v.length) : resR l v = (putV (effL l v) v (ballsE l v) v, chgV (effL l v) v (ballsE l v), 0) := by
  unfold resR
  rw [if_neg h1, if_pos ⟨hv, List.all_eq_true.2 fun m hm => permM_iff.2 (hp m hm)⟩]
end Go.Proofs.YtgejdaincnclpaaGreat
namespace Go.Proofs.YtgejdaincnclpaaGreat
open Go Go.RowKit
set_option linter.unusedVariables false
theorem resR_err {l : List Mt} {v : List V2} (h : ¬ (resR l v).2.2 = 0) : (resR l v).1 = [] ∧ (resR l v).2.1 = false := by
  unfold resR at *
  split
  · exact ⟨rfl, rfl⟩
  · rename_i h1
    rw [if_neg h1] at h
    split
    · rename_i h2
      rw [if_pos h2] at h
      exact absurd rfl h
    · exact ⟨rfl, rfl⟩
theorem clamp_bd (x : Int) : -65536 ≤ clampR x ∧ clampR x ≤ 65536 := by unfold clampR; omega
theorem put_near {l : List Mt} {v : List V2} : ∀ (bs : List Int) (o : List V2), o.all (nearB 1048576) = true → (putV l v bs o).all (nearB 1048576) = true
  | [], o, h => h
  | b :: bs, o, h => by
    refine put_near bs _ ?_
    rw [List.all_eq_true] at *
    intro x hx
    rcases List.mem_or_eq_of_mem_set hx with h' | rfl
    · exact h x h'
    · have h1 := clamp_bd (meanR (l.map fun m => aloneR m v b)).1
      have h2 := clamp_bd (meanR (l.map fun m => aloneR m v b)).2
      unfold newV nearB
      simp only [withinB, decide_eq_true_eq]
      omega
theorem res_near {l : List Mt} {v : List V2} (h : (resR l v).2.2 = 0) : (resR l v).1.all (nearB 1048576) = true ∧ (resR l v).1.length = v.length := by
  obtain ⟨h1, hv, hp⟩ := resR_ok h
  rw [resR_val h1 hv hp]
  exact ⟨put_near _ _ hv, putV_len _ _ _ _⟩
end Go.Proofs.YtgejdaincnclpaaGreat
namespace Go.Proofs.YtgejdaincnclpaaGreat
open Go Go.RowKit
set_option linter.unusedVariables false
structure Sc (S : Int × Int × Int) (X Y D : Int) : Prop where
  d : 0 < D
  s : 0 < S.2.2
  g : ∃ G : Int, 0 < G ∧ X = G * S.1 ∧ Y = G * S.2.1 ∧ D = G * S.2.2
theorem Sc.zero : Sc (0, 0, 1) 0 0 1 := ⟨by decide, by decide, 1, by decide, rfl, rfl, rfl⟩
theorem Sc.step {S : Int × Int × Int} {X Y D x y d : Int} (h : Sc S X Y D) (d2 : 0 < d) : Sc (sumR S (x, y, d)) (X * d + x * D) (Y * d + y * D) (D * d) := by
  obtain ⟨hd, hs, G, hG, e1, e2, e3⟩ := h
  unfold sumR
  obtain ⟨H, hH, f1, f2, f3, hd'⟩ := lowR_mul (S.1 * d + x * S.2.2) (S.2.1 * d + y * S.2.2) (S.2.2 * d) (Int.mul_pos hs d2)
  simp only
  generalize lowR (S.1 * d + x * S.2.2) (S.2.1 * d + y * S.2.2) (S.2.2 * d) = L at *
  refine ⟨Int.mul_pos hd d2, hd', G * H, Int.mul_pos hG hH, ?_, ?_, ?_⟩
  · rw [Int.mul_assoc, ← f1, e1, e3]; grind
  · rw [Int.mul_assoc, ← f2, e2, e3]; grind
  · rw [Int.mul_assoc, ← f3, e3]; grind
theorem Sc.mean {S : Int × Int × Int} {X Y D n : Int} (h : Sc S X Y D) : S.1.tdiv (S.2.2 * n) = X.tdiv (D * n) ∧ S.2.1.tdiv (S.2.2 * n) = Y.tdiv (D * n) := by
  obtain ⟨_, _, G, hG, e1, e2, e3⟩ := h
  rw [e1, e2, e3, Int.mul_assoc]
  exact ⟨(Int.mul_tdiv_mul_of_pos _ _ hG).symm, (Int.mul_tdiv_mul_of_pos _ _ hG).symm⟩
theorem mean_one {x y d : Int} (hd : 0 < d) : meanR [(x, y, d)] = (x.tdiv d, y.tdiv d) := by
  have h := (Sc.zero.step (x := x) (y := y) hd).mean (n := 1)
  have e : meanS [(x, y, d)] = sumR (0, 0, 1) (x, y, d) := rfl
  unfold meanR
  rw [e]
  have hl : ((([(x, y, d)] : List (Int × Int × Int)).length : Nat) : Int) = 1 := rfl
  rw [hl, h.1, h.2]
  simp
theorem mean_three {x y d : Int} (hd : 0 < d) : meanR [(x, y, d), (x, y, d), (x, y, d)] = (x.tdiv d, y.tdiv d) := by
  have h := (((Sc.zero.step (x := x) (y := y) hd).step (x := x) (y := y) hd).step (x := x) (y := y) hd).mean (n := 3)
  have e : meanS [(x, y, d), (x, y, d), (x, y, d)] = sumR (sumR (sumR (0, 0, 1) (x, y, d)) (x, y, d)) (x, y, d) := rfl
  unfold meanR
  rw [e]
  have hl : ((([(x, y, d), (x, y, d), (x, y, d)] : List (Int × Int × Int)).length : Nat) : Int) = 3 := rfl
  have hk : 0 < 3 * (d * d) := by have := Int.mul_pos hd hd; omega
  have key : ∀ z : Int, (((0 * d + z * 1) * d + z * (1 * d)) * d + z * (1 * d * d)).tdiv (1 * d * d * d * 3) = z.tdiv d := fun z => by
    rw [show ((0 * d + z * 1) * d + z * (1 * d)) * d + z * (1 * d * d) = 3 * (d * d) * z by grind, show 1 * d * d * d * 3 = 3 * (d * d) * d by grind]
    exact Int.mul_tdiv_mul_of_pos _ _ hk
  rw [hl, h.1, h.2, key, key]
theorem new_three {m : Mt} {v : List V2} {k : Int} (hd : 0 < (aloneR m v k).2.2) : newV [m, m, m] v k = newV [m] v k := by
  unfold newV
  simp only [List.map_cons, List.map_nil]
  generalize aloneR m v k = r at *
  obtain ⟨x, y, d⟩ := r
  rw [mean_one hd, mean_three hd]
theorem res_three (m : Mt) (v : List V2) : resR [m, m, m] v = resR [m] v := by
  by_cases h1 : 64 < v.length
  · unfold resR
    rw [if_pos (.inr h1), if_pos (.inr h1)]
  · have g3 : ¬ (16 < ([m, m, m] : List Mt).length ∨ 64 < v.length) := by simp only [List.length_cons, List.length_nil]; omega
    have g1 : ¬ (16 < ([m] : List Mt).length ∨ 64 < v.length) := by simp only [List.length_cons, List.length_nil]; omega
    unfold resR
    rw [if_neg g3, if_neg g1]
    have ep : ([m, m, m] : List Mt).all (fun m => permM m v.length) = ([m] : List Mt).all (fun m => permM m v.length) := by simp
    rw [ep]
    split
    · rename_i h
      have hp : PermM m v.length := permM_iff.1 (List.all_eq_true.1 h.2 m (by simp))
      have hb : ballsE [m, m, m] v = ballsE [m] v := by
        unfold ballsE
        refine setI_congr fun x => ?_
        rw [mem_ballsL, mem_ballsL]
        unfold effL
        simp only [List.mem_filter, List.mem_cons, List.not_mem_nil, or_false, or_self]
      have he : effL [m, m, m] v = effL [m] v ++ (effL [m] v ++ effL [m] v) := by
        unfold effL
        cases hm : apprM v m <;> simp [hm]
      have hnew : ∀ b ∈ ballsE [m] v, newV (effL [m, m, m] v) v b = newV (effL [m] v) v b := fun b hb => by
        have hpl : ∀ x ∈ [m], PermM x v.length := fun x hx => by simp only [List.mem_singleton] at hx; subst hx; exact hp
        obtain ⟨b0, b1, b2⟩ := balls_in hpl hb
        have hem : effL [m] v = [m] := by
          unfold effL at *
          cases hm : apprM v m
          · simp [hm] at b2
          · simp [hm]
        rw [he, hem]
        exact new_three (alone_ok hp h.1 b0 b1).1.d
      rw [hb, putV_congr hnew, chgV_congr hnew]
    · rfl
def oneX (m : Mt) (v : List V2) : Int × Int × Int := sumR (statR (v.getD m.a.toNat (0, 0)).1 (v.getD m.a.toNat (0, 0)).2 m.w1 m.w2 m.n1 m.n2 m.e m.g) (m.k1, m.k2, 1)
structure OneOk (m : Mt) (v o : List V2) : Prop where
  p : PermM m v.length
  nv : v.all (nearB 1048576) = true
  x : Val (oneX m v)
  mw : withinB (meanR [oneX m v]).1 (meanR [oneX m v]).2 1073741824 = true
  val : o[m.a.toNat]? = some (clampR (meanR [oneX m v]).1, clampR (meanR [oneX m v]).2)
theorem within_more {a b n m : Int} (h : withinB a b n = true) (hnm : n ≤ m) : withinB a b m = true := by
  simp only [withinB, decide_eq_true_eq] at *; omega
theorem one_ok {m : Mt} {v : List V2} (h : (resR [m] v).2.2 = 0) (hb : m.b = -1) (ha : apprB (v.getD m.a.toNat (0, 0)).1 (v.getD m.a.toNat (0, 0)).2 m.w1 m.w2 m.n1 m.n2 = true) : OneOk m v (resR [m] v).1 := by
  obtain ⟨h1, hv, hp⟩ := resR_ok h
  have hpm := hp m (by simp)
  have hap : apprM v m = true := by unfold apprM surfM; rw [if_pos hb]; exact ha
  have he : effL [m] v = [m] := by unfold effL; simp [hap]
  have hbs : ballsE [m] v = [m.a] := by
    unfold ballsE
    rw [he]
    exact setI_eq (by simp) fun x => by simp [ballsL, hb]
  have na := near_get hv hpm.a0 hpm.a1
  have hpp := permB_of na hpm.w hpm.nn
  obtain ⟨hl, hd⟩ := stat_lens (v.getD m.a.toNat (0, 0)).1 (v.getD m.a.toNat (0, 0)).2 m.w1 m.w2 m.n1 m.n2 m.e m.g
  have hd := hd hpp hpm.e hpm.g
  have hk := within_bd2 hpm.k
  have hlk : Lens (m.k1, m.k2, 1) := lens_vec ⟨hk.1, hk.2.1⟩ hk.2.2
  have hal : aloneR m v m.a = kickS (statR (v.getD m.a.toNat (0, 0)).1 (v.getD m.a.toNat (0, 0)).2 m.w1 m.w2 m.n1 m.n2 m.e m.g) m.k1 m.k2 := by
    unfold aloneR
    rw [if_neg (fun h => h.1 hb), if_neg (fun h => h.1 hb), if_pos rfl]
  have hmean : meanR [oneX m v] = meanR [aloneR m v m.a] := by
    rw [hal]
    unfold oneX kickS
    generalize statR (v.getD m.a.toNat (0, 0)).1 (v.getD m.a.toNat (0, 0)).2 m.w1 m.w2 m.n1 m.n2 m.e m.g = r at *
    obtain ⟨x, y, d⟩ := r
    simp only at *
    unfold sumR
    simp only
    obtain ⟨G, hG, e1, e2, e3, hd'⟩ := lowR_mul (x * 1 + m.k1 * d) (y * 1 + m.k2 * d) (d * 1) (by omega)
    generalize lowR (x * 1 + m.k1 * d) (y * 1 + m.k2 * d) (d * 1) = L at *
    obtain ⟨x', y', d'⟩ := L
    simp only at *
    rw [mean_one hd', mean_one hd, ← Int.mul_tdiv_mul_of_pos x' d' hG, ← Int.mul_tdiv_mul_of_pos y' d' hG, ← e1, ← e2, ← e3]
    rw [show x * 1 + m.k1 * d = x + d * m.k1 by grind, show y * 1 + m.k2 * d = y + d * m.k2 by grind, Int.mul_one]
  have hao := alone_ok hpm hv hpm.a0 hpm.a1
  have hmw := mean_within (l := [aloneR m v m.a]) (by simp) (fun r hr => by simp only [List.mem_singleton] at hr; subst hr; exact ⟨hao.1.d, hao.2⟩)
  refine ⟨hpm, hv, ?_, ?_, ?_⟩
  · have hdd : 0 < (statR (v.getD m.a.toNat (0, 0)).1 (v.getD m.a.toNat (0, 0)).2 m.w1 m.w2 m.n1 m.n2 m.e m.g).2.2 * (m.k1, m.k2, (1 : Int)).2.2 := by simp only; omega
    obtain ⟨q1, q2, q3, q4⟩ := sumR_lens hl hlk hdd
    exact ⟨q1, Nat.le_trans q2 (by omega), Nat.le_trans q3 (by omega), Nat.le_trans q4 (by omega)⟩
  · rw [hmean]; exact within_more hmw (by omega)
  · rw [resR_val h1 hv hp]
    simp only
    rw [he, hbs]
    have e : putV [m] v [m.a] v = v.set m.a.toNat (newV [m] v m.a) := rfl
    have h0 := hpm.a0
    have h1' := hpm.a1
    rw [e, List.getElem?_set, if_pos rfl, if_pos (by omega)]
    unfold newV
    simp only [List.map_cons, List.map_nil]
    rw [hmean]
end Go.Proofs.YtgejdaincnclpaaGreat
namespace Go.Proofs.YtgejdaincnclpaaGreat
open Go Go.RowKit
set_option linter.unusedVariables false
theorem mat_one (a b n1 n2 x1 x2 y1 y2 e f : Int) (t : TypeId) (w : World) (g : Nat) (hg : g = w.heap.size) : MAt (w.alloc (.cells #[Value.int .i64 a, .int .i64 b, .int .i64 n1, .int .i64 n2, .int .i64 x1, .int .i64 x2, .int .i64 y1, .int .i64 y2, .int .i64 e, .int .i64 f] t)) (some ⟨g, 0, none⟩) [⟨a, b, n1, n2, x1, x2, y1, y2, e, f⟩] := by subst hg; exact mat_block (l := [⟨a, b, n1, n2, x1, x2, y1, y2, e, f⟩]) (heap_alloc_new w _)
theorem mat_three (a b n1 n2 x1 x2 y1 y2 e f : Int) (t : TypeId) (w : World) (g : Nat) (hg : g = w.heap.size) : MAt (w.alloc (.cells #[Value.int .i64 a, .int .i64 b, .int .i64 n1, .int .i64 n2, .int .i64 x1, .int .i64 x2, .int .i64 y1, .int .i64 y2, .int .i64 e, .int .i64 f, Value.int .i64 a, .int .i64 b, .int .i64 n1, .int .i64 n2, .int .i64 x1, .int .i64 x2, .int .i64 y1, .int .i64 y2, .int .i64 e, .int .i64 f, Value.int .i64 a, .int .i64 b, .int .i64 n1, .int .i64 n2, .int .i64 x1, .int .i64 x2, .int .i64 y1, .int .i64 y2, .int .i64 e, .int .i64 f] t)) (some ⟨g, 0, none⟩) [⟨a, b, n1, n2, x1, x2, y1, y2, e, f⟩, ⟨a, b, n1, n2, x1, x2, y1, y2, e, f⟩, ⟨a, b, n1, n2, x1, x2, y1, y2, e, f⟩] := by subst hg; exact mat_block (l := [⟨a, b, n1, n2, x1, x2, y1, y2, e, f⟩, ⟨a, b, n1, n2, x1, x2, y1, y2, e, f⟩, ⟨a, b, n1, n2, x1, x2, y1, y2, e, f⟩]) (heap_alloc_new w _)
theorem rsat_one {w : World} {g : Nat} {e : TypeId} {s1 s2 s3 : Bool} {A1 A2 A3 : Option Addr} {n1 c1 n2 c2 n3 c3 : Nat} {x y d : Int} (h : w.heap[g]? = some (.cells #[.bool s1, .slice A1 n1 c1, .bool s2, .slice A2 n2 c2, .bool s3, .slice A3 n3 c3] e (0, 0)))
    (hr : RAt w (.agg #[.bool s1, .slice A1 n1 c1, .bool s2, .slice A2 n2 c2, .bool s3, .slice A3 n3 c3]) x y d) : RsAt w (some ⟨g, 0, none⟩) [(x, y, d)] := fun k r hk => by
  rcases k with _ | k
  · simp only [List.getElem?_cons_zero, Option.some.injEq] at hk
    subst hk
    have key : ∀ j, w.cell? ⟨g, 0 + 0 * 6 + j, none⟩ = (#[Value.bool s1, .slice A1 n1 c1, .bool s2, .slice A2 n2 c2, .bool s3, .slice A3 n3 c3] : Array Value)[j]? := fun j => by
      rw [show 0 + 0 * 6 + j = j by omega]
      exact cell_of_row w g j _ e (0, 0) h
    exact ⟨g, 0, rfl, (Array.getElem?_eq_some_iff.1 h).1, s1, A1, n1, c1, s2, A2, n2, c2, s3, A3, n3, c3, key 0, key 1, key 2, key 3, key 4, key 5, hr⟩
  · simp at hk
theorem rsat_new {W : World} {s1 s2 s3 : Bool} {A1 A2 A3 : Option Addr} {n1 c1 n2 c2 n3 c3 : Nat} {x y d : Int} (t : TypeId) (g : Nat) (hg : g = W.heap.size) (hr : RAt W (.agg #[.bool s1, .slice A1 n1 c1, .bool s2, .slice A2 n2 c2, .bool s3, .slice A3 n3 c3]) x y d) :
    RsAt (W.alloc (.cells #[.bool s1, .slice A1 n1 c1, .bool s2, .slice A2 n2 c2, .bool s3, .slice A3 n3 c3] t)) (some ⟨g, 0, none⟩) [(x, y, d)] := by
  subst hg
  exact rsat_one (heap_alloc_new W _) (hr.al _)
set_option maxRecDepth 100000 in
set_option maxHeartbeats 40000000 in
theorem one_law (l : List Mt) (A : Option Addr) (c : Nat) (v : List V2) (B : Option Addr) (d : Nat) (w : World) (hM : MAt w A l) (hV : VAt w B v) :
    Calls Tryz.prog 4 #[.slice A l.length c, .slice B v.length d] w fun e w' => e = .returned (.bool true) ∧ Below w.heap.size w w' := by
  have HM := Lib.hid hM
  have HV := Lib.hid hV
  have ka := fun w => awake16_any w
  have KA := Lib.hid ka
  clear ka hM hV
  go_enter Tryz.func4, Tryz.ntmps4; (try simp only [List.append_eq, List.cons_append, List.nil_append])
  go_wp2_with fail
  (go_at_call 5; refine (KA.out _).mono ?_; rintro e w1 ⟨rfl, hb_w1⟩; have hz_w1 := hb_w1.size; (try simp at hz_w1); skip)
  have HB1 := Lib.hid (show Below w.heap.size w w1 by ((with_reducible (repeat (first | exact bR _ _ | refine bS ?_ ?_ _ | refine bA ?_ ?_ _ | refine bD ?_ | refine bT ?_ (by assumption) ?_ | refine bO (by assumption) ?_ ?_))) <;> (first | omega | (simp <;> omega))))
  clear hb_w1
  go_wp2_with fail
  go_loopw [5] (fun t5 wr => ∃ k : Nat, k ≤ 3 ∧ k ≤ l.length ∧ t5 = .int .i64 k ∧ Hid (Below w1.heap.size w1 wr)) (fun t5 _ => 3 - (intOf t5).toNat)
  case atStart => exact ⟨0, by omega, by omega, rfl, Lib.hid (Below.refl _ _)⟩
  case round =>
    obtain ⟨k, hk3, hk, rfl, HW⟩ := hrel
    obtain ⟨w2, rfl⟩ : ∃ z, z = wr := ⟨_, rfl⟩
    have HB2 := Lib.hid (HB1.out.trans (HW.out.mono HB1.out.size))
    have k1 : (0 : Int) ≤ (k : Int) := by omega
    have hz12 : w1.heap.size ≤ w2.heap.size := HW.out.size
    by_cases hkk : k < l.length ∧ k < 3
    · obtain ⟨hkl, hk4⟩ := hkk
      have k2 : (k : Int) < (l.length : Int) := by omega
      have k3 : (k : Int) < 3 := by omega
      obtain ⟨m, hm⟩ : ∃ m, l[k]? = some m := ⟨l[k], by simp⟩
      obtain ⟨gm, om, rfl, hgm, m0, m1, m2, m3, m4, m5, m6, m7, m8, m9⟩ := (HM.out.below HB2.out (Nat.le_refl _)) k m hm
      have HOK := Lib.hid (fun h hb ha => one_ok (m := m) (v := v) h hb ha)
      have HPM := Lib.hid (fun h => (resR_ok (l := [m]) (v := v) h).2.2 m (by simp))
      have HNV := Lib.hid (fun h => (resR_ok (l := [m]) (v := v) h).2.1)
      have HL0 := Lib.hid (fun h => And.intro (res_near (l := [m]) (v := v) h).2 (resR_ok (l := [m]) (v := v) h).1)
      have HLE := Lib.hid (fun h => (resR_err (l := [m]) (v := v) h).1)
      have kr := fun (A' : Option Addr) (c' : Nat) (w' : World) (hm : MAt w' A' [m]) (h : Below w2.heap.size w2 w') => (show Calls Tryz.prog 6 #[.slice A' 1 c', .slice B v.length d] w' (RsvOut (resR [m] v) w') from resolve_any [m] A' c' v B d w' hm (HV.out.below (HB2.out.trans (h.mono (by have := HB2.out.size; omega))) (Nat.le_refl _)))
      have k3r := fun (A' : Option Addr) (c' : Nat) (w' : World) (hm : MAt w' A' [m, m, m]) (h : Below w2.heap.size w2 w') => (show Calls Tryz.prog 6 #[.slice A' 3 c', .slice B v.length d] w' (RsvOut (resR [m] v) w') from by have := resolve_any [m, m, m] A' c' v B d w' hm (HV.out.below (HB2.out.trans (h.mono (by have := HB2.out.size; omega))) (Nat.le_refl _)); rw [res_three] at this; exact this)
      obtain ⟨ma, mb, n1, n2, x1, x2, y1, y2, e, f⟩ := m
      simp only at m0 m1 m2 m3 m4 m5 m6 m7 m8 m9
      generalize resR [⟨ma, mb, n1, n2, x1, x2, y1, y2, e, f⟩] v = R at *
      obtain ⟨o1, ch, code⟩ := R
      simp only at HOK HPM HL0 HLE HNV
      have hol : o1.length ≤ 100 := by
        by_cases hc : code = 0
        · have := HL0.out hc; omega
        · rw [HLE.out hc]; simp
      have KR := Lib.hid kr
      have K3R := Lib.hid k3r
      have ksm := fun (A B : Option Addr) (c d : Nat) (w : World) h1 h2 => same_yes o1 A B c d w h1 h2 (by omega)
      have KSM := Lib.hid ksm
      have hee : (code != code) = false := by simp
      clear kr k3r ksm hm
      go_wp2_with fail
      (go_at_call 6; refine (KR.out _ _ _ (mat_one ma mb n1 n2 x1 x2 y1 y2 e f _ _ _ (by simp)) (by ((with_reducible (repeat (first | exact bR _ _ | refine bS ?_ ?_ _ | refine bA ?_ ?_ _ | refine bD ?_ | refine bT ?_ (by assumption) ?_ | refine bO (by assumption) ?_ ?_))) <;> (first | omega | (simp <;> omega))))).mono ?_; rintro e w3 ⟨hb_w3, O, qo, rfl, ho⟩; have hz_w3 := hb_w3.size; (try simp at hz_w3); (with_reducible apply cel10 (b := w2.heap.size) hb_w3); (focus ((try simp) <;> omega)); (focus omega); (iterate 10 (focus (go_simp; try exact rfl))); (focus (intro o; go_simp)); intro cc cc cc cc cc cc cc cc cc cc fz hl)
      have HB3 := Lib.hid (show Below w2.heap.size w2 w3 by ((with_reducible (repeat (first | exact bR _ _ | refine bS ?_ ?_ _ | refine bA ?_ ?_ _ | refine bD ?_ | refine bT ?_ (by assumption) ?_ | refine bO (by assumption) ?_ ?_))) <;> (first | omega | (simp <;> omega))))
      have HO3 := Lib.hid (show VAt w3 O o1 from ho)
      have hz3 := HB3.out.size
      clear hb_w3 ho KR m0 m1 m2 m3 m4 m5 m6 m7 m8 m9
      (try simp only)
      go_wp2_with fail
      (go_at_call 6; refine (K3R.out _ _ _ (mat_three ma mb n1 n2 x1 x2 y1 y2 e f _ _ _ (by simp)) (by have hB := HB3.out; ((with_reducible (repeat (first | exact bR _ _ | refine bS ?_ ?_ _ | refine bA ?_ ?_ _ | refine bD ?_ | refine bT ?_ (by assumption) ?_ | refine bO (by assumption) ?_ ?_))) <;> (first | omega | (simp <;> omega))))).mono ?_; rintro e w4 ⟨hb_w4, O2, qo2, rfl, ho2⟩; have hz_w4 := hb_w4.size; (try simp at hz_w4); (with_reducible apply cel10 (b := w2.heap.size) hb_w4); (focus ((try simp) <;> omega)); (focus omega); (iterate 10 (focus (go_simp; try exact rfl))); (focus (intro o; go_simp)); intro cc cc cc cc cc cc cc cc cc cc fz hl)
      have HB4 := Lib.hid (show Below w2.heap.size w2 w4 by have hB := HB3.out; ((with_reducible (repeat (first | exact bR _ _ | refine bS ?_ ?_ _ | refine bA ?_ ?_ _ | refine bD ?_ | refine bT ?_ (by assumption) ?_ | refine bO (by assumption) ?_ ?_))) <;> (first | omega | (simp <;> omega))))
      have HO4 := Lib.hid (show VAt w4 O2 o1 from ho2)
      have HOa := Lib.hid (HO3.out.below (show Below w3.heap.size w3 w4 by ((with_reducible (repeat (first | exact bR _ _ | refine bS ?_ ?_ _ | refine bA ?_ ?_ _ | refine bD ?_ | refine bT ?_ (by assumption) ?_ | refine bO (by assumption) ?_ ?_))) <;> (first | omega | (simp <;> omega)))) (Nat.le_refl _))
      have hz4 := HB4.out.size
      clear hb_w4 ho2 K3R HO3
      (try simp only)
      go_wp2_with fail
      (go_at_call 9; refine (KSM.out _ _ _ _ _ HOa.out HO4.out).mono ?_; rintro e w5 ⟨rfl, hb_w5⟩; have hz_w5 := hb_w5.size; (try simp at hz_w5); (with_reducible apply cel10 (b := w2.heap.size) hb_w5); (focus ((try simp) <;> omega)); (focus omega); (iterate 10 (focus (go_simp; try exact rfl))); (focus (intro o; go_simp)); intro cc cc cc cc cc cc cc cc cc cc fz hl)
      have HB5 := Lib.hid (show Below w2.heap.size w2 w5 by have hB := HB4.out; ((with_reducible (repeat (first | exact bR _ _ | refine bS ?_ ?_ _ | refine bA ?_ ?_ _ | refine bD ?_ | refine bT ?_ (by assumption) ?_ | refine bO (by assumption) ?_ ?_))) <;> (first | omega | (simp <;> omega))))
      have HO5 := Lib.hid (HOa.out.below hb_w5 (Nat.le_refl _))
      have hz5 := HB5.out.size
      have HBW := Lib.hid (HB2.out.trans (HB5.out.mono (by have := HB2.out.size; omega)))
      clear hb_w5 HOa HO4 KSM HB3 HB4
      by_cases hcd : code = 0
      case neg =>
        have hc1 : (code != 0) = true := by rw [bne_iff_ne]; exact hcd
        go_wp2_with fail
        refine wp_region_warm (Own w5.heap.size w5) (by kernel_rfl) (by kernel_rfl) (Own.refl (Nat.le_refl _)).drew ?_
        repeat (first | (refine wpWarm_step_off rfl (fun K hK => ?_); (go_simp; refine hK _ ?_; clear hK K)) | (apply wpWarm_step rfl; (focus (intro W' hS; have hcS := hS.cells.1; have hfS := hS.cells.2; go_simp; (first | done | exact rfl | exact ⟨rfl, hS⟩ | (go_simp; exact rfl)))); (intro K hK; go_simp; (try go_bits); refine hK _ ?_; clear hK K)) | (apply wpWarm_step_on rfl; (focus (intro W' hS; have hcS := hS.cells.1; have hfS := hS.cells.2; go_simp; (first | done | exact rfl | exact ⟨rfl, hS⟩ | (go_simp; exact rfl)))); (intro K hK; go_simp; (try go_bits); refine hK _ ?_; clear hK K)))
        (refine wpWarm_nil ?_; intro w6 hO; have hz_w6 := hO.1; have hb_w6 := hO.2; clear hO; (with_reducible apply cel10 (b := w2.heap.size) hb_w6); (focus ((try simp) <;> omega)); (focus omega); (iterate 10 (focus (go_simp; try exact rfl))); (focus (intro o; go_simp)); intro cc cc cc cc cc cc cc cc cc cc fz hl)
        have HB6 := Lib.hid (HW.out.trans ((HB5.out.trans (hb_w6.mono (by omega))).mono (by omega)))
        clear hb_w6
        go_wp2_with fail
        go_roundw
        case rel => exact ⟨k + 1, by omega, by omega, by go_num, HB6⟩
        case measure => simp [intOf]; omega
      case pos =>
        subst hcd
        have hp := HPM.out rfl
        have HLN := Lib.hid (HL0.out rfl).1
        by_cases hmb : 0 ≤ mb
        · have hc1 : decide (mb ≥ 0) = true := decide_eq_true hmb
          clear hp
          go_wp2_with fail
          refine wp_region_warm (Own w5.heap.size w5) (by kernel_rfl) (by kernel_rfl) (Own.refl (Nat.le_refl _)).drew ?_
          repeat (first | (refine wpWarm_step_off rfl (fun K hK => ?_); (go_simp; refine hK _ ?_; clear hK K)) | (apply wpWarm_step rfl; (focus (intro W' hS; have hcS := hS.cells.1; have hfS := hS.cells.2; go_simp; (first | done | exact rfl | exact ⟨rfl, hS⟩ | (go_simp; exact rfl)))); (intro K hK; go_simp; (try go_bits); refine hK _ ?_; clear hK K)) | (apply wpWarm_step_on rfl; (focus (intro W' hS; have hcS := hS.cells.1; have hfS := hS.cells.2; go_simp; (first | done | exact rfl | exact ⟨rfl, hS⟩ | (go_simp; exact rfl)))); (intro K hK; go_simp; (try go_bits); refine hK _ ?_; clear hK K)))
          (refine wpWarm_nil ?_; intro w6 hO; have hz_w6 := hO.1; have hb_w6 := hO.2; clear hO; (with_reducible apply cel10 (b := w2.heap.size) hb_w6); (focus ((try simp) <;> omega)); (focus omega); (iterate 10 (focus (go_simp; try exact rfl))); (focus (intro o; go_simp)); intro cc cc cc cc cc cc cc cc cc cc fz hl)
          have HB6 := Lib.hid (HW.out.trans ((HB5.out.trans (hb_w6.mono (by omega))).mono (by omega)))
          clear hb_w6
          go_wp2_with fail
          go_roundw
          case rel => exact ⟨k + 1, by omega, by omega, by go_num, HB6⟩
          case measure => simp [intOf]; omega
        · obtain rfl : mb = -1 := by have := hp.b0; simp only at this; omega
          obtain ⟨gv, ov, rfl, hgv, v0, v1⟩ := vat_cell (HV.out.below HBW.out (Nat.le_refl _)) hp.a0 hp.a1
          have i1 := hp.a0
          have i2 := hp.a1
          have HP := Lib.hid hp
          have HOK1 := HOK.out rfl rfl
          simp only at v0 v1 i1 i2 HOK1
          have hnv := HNV.out rfl
          have na := near_get hnv i1 i2
          have hkk := within_bd2 hp.k
          simp only at hkk
          obtain ⟨hst, hsd⟩ := stat_lens (v.getD ma.toNat (0, 0)).1 (v.getD ma.toNat (0, 0)).2 x1 x2 n1 n2 e f
          have hsd := hsd (permB_of na hp.w hp.nn) hp.e hp.g
          have kap := fun w => rapproaches_any (v.getD ma.toNat (0, 0)).1 (v.getD ma.toNat (0, 0)).2 x1 x2 n1 n2 w
          have kst := fun w => rstatic_any (v.getD ma.toNat (0, 0)).1 (v.getD ma.toNat (0, 0)).2 x1 x2 n1 n2 e f w
          have kwh := fun w => rwhole_any y1 y2 w (by omega) (by omega)
          have hox : oneX ⟨ma, -1, n1, n2, x1, x2, y1, y2, e, f⟩ v = sumR (statR (v.getD ma.toNat (0, 0)).1 (v.getD ma.toNat (0, 0)).2 x1 x2 n1 n2 e f) (y1, y2, 1) := rfl
          obtain ⟨ap, hap⟩ : ∃ b, b = apprB (v.getD ma.toNat (0, 0)).1 (v.getD ma.toNat (0, 0)).2 x1 x2 n1 n2 := ⟨_, rfl⟩
          rw [← hap] at HOK1
          simp only [← hap] at kap
          clear na hnv hap
          generalize (v.getD ma.toNat (0, 0)).1 = p1 at *
          generalize (v.getD ma.toNat (0, 0)).2 = p2 at *
          unfold TOut at kst
          generalize statR p1 p2 x1 x2 n1 n2 e f = S at *
          obtain ⟨t1, t2, t3⟩ := S
          simp only at kst hsd hst
          obtain ⟨lx, ly, ld⟩ := hst
          simp only at lx ly ld
          have ly1 := len_up (len_wd (z := y1) (by omega) (by omega)) (show _ ≤ 1000 by omega)
          have ly2 := len_up (len_wd (z := y2) (by omega) (by omega)) (show _ ≤ 1000 by omega)
          have l1 := len_up (len_wd (z := 1) (by omega) (by omega)) (show _ ≤ 1000 by omega)
          have ksu := fun u v w h1 h2 => rsum_any t1 t2 t3 y1 y2 1 u v w h1 h2 (by omega) (len_up lx (by omega)) (len_up ly (by omega)) (len_up ld (by omega)) ly1 ly2 l1
          unfold POut at ksu
          generalize sumR (t1, t2, t3) (y1, y2, 1) = X at *
          obtain ⟨X1, X2, X3⟩ := X
          simp only at ksu
          have KAP := Lib.hid kap
          have KST := Lib.hid kst
          have KWH := Lib.hid kwh
          have KSU := Lib.hid ksu
          have HOX := Lib.hid hox
          clear kap kst kwh ksu hox hkk lx ly ld ly1 ly2 l1 hsd hp
          cases ap
          · go_wp2_with fail
            refine wp_region_warm (Own w5.heap.size w5) (by kernel_rfl) (by kernel_rfl) (Own.refl (Nat.le_refl _)).drew ?_
            repeat (first | (refine wpWarm_step_off rfl (fun K hK => ?_); (go_simp; refine hK _ ?_; clear hK K)) | (apply wpWarm_step rfl; (focus (intro W' hS; have hcS := hS.cells.1; have hfS := hS.cells.2; go_simp; (first | done | exact rfl | exact ⟨rfl, hS⟩ | (go_at_call 13; exact (KAP.out _).mono (fun _ _ h => ⟨h.1, hS.call h.2⟩)) | (go_simp; exact rfl)))); (intro K hK; go_simp; (try go_bits); refine hK _ ?_; clear hK K)) | (apply wpWarm_step_on rfl; (focus (intro W' hS; have hcS := hS.cells.1; have hfS := hS.cells.2; go_simp; (first | done | exact rfl | exact ⟨rfl, hS⟩ | (go_at_call 13; exact (KAP.out _).mono (fun _ _ h => ⟨h.1, hS.call h.2⟩)) | (go_simp; exact rfl)))); (intro K hK; go_simp; (try go_bits); refine hK _ ?_; clear hK K)))
            (refine wpWarm_nil ?_; intro w6 hO; have hz_w6 := hO.1; have hb_w6 := hO.2; clear hO; (with_reducible apply cel10 (b := w2.heap.size) hb_w6); (focus ((try simp) <;> omega)); (focus omega); (iterate 10 (focus (go_simp; try exact rfl))); (focus (intro o; go_simp)); intro cc cc cc cc cc cc cc cc cc cc fz hl)
            have HB6 := Lib.hid (HW.out.trans ((HB5.out.trans (hb_w6.mono (by omega))).mono (by omega)))
            clear hb_w6
            go_wp2_with fail
            go_roundw
            case rel => exact ⟨k + 1, by omega, by omega, by go_num, HB6⟩
            case measure => simp [intOf]; omega
          · have hok := HOK1 rfl
            have hx := hok.x
            have hmw := hok.mw
            have hval := hok.val
            rw [HOX.out] at hx hmw hval
            have kmn := fun A c w h => rmean_ok [(X1, X2, X3)] A c w (by simp) (by simp) h (fun r hr => by simp only [List.mem_singleton] at hr; subst hr; exact hx) hmw
            unfold clampR at hval
            generalize (meanR [(X1, X2, X3)]).1 = mx at *
            generalize (meanR [(X1, X2, X3)]).2 = my at *
            have KM := Lib.hid (show ∀ (A : Option Addr) (c : Nat) (w : World), RsAt w A [(X1, X2, X3)] → Calls Tryz.prog 17 #[.slice A 1 c] w (fun e w' => e = .returned (.tuple #[.agg #[.int .i64 mx, .int .i64 my], .bool true]) ∧ Below w.heap.size w w') from kmn)
            have HVL := Lib.hid hval
            have i3 : ma < (o1.length : Int) := by have := HLN.out; omega
            clear hok hx hmw hval kmn HOK1
            go_wp2_with fail
            refine wp_region_warm (Own w5.heap.size w5) (by kernel_rfl) (by kernel_rfl) (Own.refl (Nat.le_refl _)).drew ?_
            repeat (first | (refine wpWarm_step_off rfl (fun K hK => ?_); (go_simp; refine hK _ ?_; clear hK K)) | (apply wpWarm_step rfl; (focus (intro W' hS; have hcS := hS.cells.1; have hfS := hS.cells.2; go_simp; (first | done | exact rfl | exact ⟨rfl, hS⟩ | (go_at_call 13; exact (KAP.out _).mono (fun _ _ h => ⟨h.1, hS.call h.2⟩)) | (go_simp; exact rfl)))); (intro K hK; go_simp; (try go_bits); refine hK _ ?_; clear hK K)) | (apply wpWarm_step_on rfl; (focus (intro W' hS; have hcS := hS.cells.1; have hfS := hS.cells.2; go_simp; (first | done | exact rfl | exact ⟨rfl, hS⟩ | (go_at_call 13; exact (KAP.out _).mono (fun _ _ h => ⟨h.1, hS.call h.2⟩)) | (go_simp; exact rfl)))); (intro K hK; go_simp; (try go_bits); refine hK _ ?_; clear hK K)))
            (refine wpWarm_nil ?_; intro w6 hO; have hz_w6 := hO.1; have hb_w6 := hO.2; clear hO; (with_reducible apply cel10 (b := w2.heap.size) hb_w6); (focus ((try simp) <;> omega)); (focus omega); (iterate 10 (focus (go_simp; try exact rfl))); (focus (intro o; go_simp)); intro cc cc cc cc cc cc cc cc cc cc fz hl)
            have HB6 := Lib.hid (HB5.out.trans (hb_w6.mono (by omega)))
            have r0 := (hb_w6.cell (p := ⟨gv, ov + ma.toNat * 2, none⟩) hgv).trans v0
            have r1 := (hb_w6.cell (p := ⟨gv, ov + ma.toNat * 2 + 1, none⟩) hgv).trans v1
            have hgv6 : gv < w6.heap.size := by omega
            have HO6 := Lib.hid (HO5.out.below hb_w6 (Nat.le_refl _))
            clear hb_w6 v0 v1 hgv
            go_wp2_with fail
            (refine pin_wp (N := _) (Nat.le_refl _) (fun w7 hb_w7 hz_w7 => ?_); (try simp at hz_w7); (with_reducible apply cel10 (b := w2.heap.size) hb_w7); (focus ((try simp) <;> omega)); (focus omega); (iterate 10 (focus (go_simp; try exact rfl))); (focus (intro o; go_simp)); intro c_w7_0_0 c_w7_0_1 c_w7_0_2 c_w7_0_3 c_w7_0_4 c_w7_0_5 c_w7_0_6 c_w7_0_7 c_w7_0_8 c_w7_0_9 fz_w7_0 hl_w7_0); refine wp_q (fun Q_ HQ_ => ?_); refine wp_region_floatQ w7.heap.size 19 [19] (Nat.le_refl _) (fun _ => True) trivial Cl.tt (by kernel_rfl) (by kernel_rfl) ?_
            have q0 := (hb_w7.cell (p := ⟨gv, ov + ma.toNat * 2, none⟩) hgv6).trans r0
            have q1 := (hb_w7.cell (p := ⟨gv, ov + ma.toNat * 2 + 1, none⟩) hgv6).trans r1
            have HB7 := Lib.hid (HB6.out.trans (hb_w7.mono (by have := HB6.out.size; omega)))
            have hgv7 : gv < w7.heap.size := by omega
            have HO7 := Lib.hid (HO6.out.below hb_w7 (Nat.le_refl _))
            have hz27 := HB7.out.size
            clear hb_w7 r0 r1 hgv6
            refine wpQI_start [0, 1, 2, 3, 4, 5, 6, 7, 8, 9, 10, 11, 12] ?_; (iterate 13 (first | (refine wpQI_off (by with_reducible (refine zA ?_; (repeat (first | exact zB | refine zC ?_)))) (by kernel_rfl) (by exact rfl) (fun K hK => ?_); go_simp; refine hK _ ?_; clear hK K) | ((first | apply wpQI_step (by with_reducible (refine zA ?_; (repeat (first | exact zB | refine zC ?_)))) (by kernel_rfl) (by exact rfl) | apply wpQI_on (by with_reducible (refine zA ?_; (repeat (first | exact zB | refine zC ?_)))) (by kernel_rfl) (by exact rfl)); (focus (intro W' hS; have hcS := hS.cells.1; have hfS := hS.cells.2; go_simp; (first | done | exact rfl | exact bB _ | (go_simp; first | done | exact rfl | exact bB _)))); intro K hK; go_simp; (try go_bits); refine hK _ ?_; clear hK K))); refine wpQI_nil ?_
            refine wpQI_start [14, 15] ?_; (iterate 2 (first | (refine wpQI_off (by with_reducible (refine zA ?_; (repeat (first | exact zB | refine zC ?_)))) (by kernel_rfl) (by exact rfl) (fun K hK => ?_); go_simp; refine hK _ ?_; clear hK K) | ((first | apply wpQI_step (by with_reducible (refine zA ?_; (repeat (first | exact zB | refine zC ?_)))) (by kernel_rfl) (by exact rfl) | apply wpQI_on (by with_reducible (refine zA ?_; (repeat (first | exact zB | refine zC ?_)))) (by kernel_rfl) (by exact rfl)); (focus (intro W' hS; have hcS := hS.cells.1; have hfS := hS.cells.2; go_simp; (first | done | exact rfl | exact bB _ | (go_simp; first | done | exact rfl | exact bB _)))); intro K hK; go_simp; (try go_bits); refine hK _ ?_; clear hK K))); refine wpQI_nil ?_
            apply wpQ_call (i := 13) (by with_reducible (refine zA ?_; (repeat (first | exact zB | refine zC ?_)))) (by kernel_rfl) (by exact rfl); intro W hF hS; have hcS := hS.1.cells.1; have hfS := hS.1.cells.2; go_simp; (go_at_call 15; refine (KST.out _).mono ?_; rintro e w8 ⟨hb_w8, u8, rfl, hu8⟩; refine XPost.mk _ (fun W => RAt W u8 (t1) (t2) (t3)) hb_w8 (hu8) (RAt.cl _ _ _ _) ?_); clear hb_w8 hcS hfS hS hF
            intro K hK; go_simp; (try go_bits); refine hK _ ?_; clear hK K
            obtain ⟨s8x, A8x, n8x, c8x, s8y, A8y, n8y, c8y, s8d, A8d, n8d, c8d, rfl⟩ := RAt.val hu8
            clear hu8
            apply wpQ_call (i := 16) (by with_reducible (refine zA ?_; (repeat (first | exact zB | refine zC ?_)))) (by kernel_rfl) (by exact rfl); intro W hF hS; have hcS := hS.1.cells.1; have hfS := hS.1.cells.2; go_simp; (go_at_call 16; refine (KWH.out _).mono ?_; rintro e w9 ⟨hb_w9, u9, rfl, hu9⟩; refine XPost.mk _ (fun W => RAt W u9 (y1) (y2) 1) hb_w9 (hu9) (RAt.cl _ _ _ _) ?_); clear hb_w9 hcS hfS hS hF
            intro K hK; go_simp; (try go_bits); refine hK _ ?_; clear hK K
            obtain ⟨s9x, A9x, n9x, c9x, s9y, A9y, n9y, c9y, s9d, A9d, n9d, c9d, rfl⟩ := RAt.val hu9
            clear hu9
            apply wpQ_call (i := 17) (by with_reducible (refine zA ?_; (repeat (first | exact zB | refine zC ?_)))) (by kernel_rfl) (by exact rfl); intro W hF hS; have hcS := hS.1.cells.1; have hfS := hS.1.cells.2; go_simp; (go_at_call 14; refine (KSU.out _ _ _ hF.1 hF.2).mono ?_; rintro e w10 ⟨hb_w10, u10, rfl, hu10⟩; refine XPost.mk _ (fun W => RAt W u10 (X1) (X2) (X3)) hb_w10 (hu10) (RAt.cl _ _ _ _) ?_); clear hb_w10 hcS hfS hS hF
            intro K hK; go_simp; (try go_bits); refine hK _ ?_; clear hK K
            obtain ⟨s10x, A10x, n10x, c10x, s10y, A10y, n10y, c10y, s10d, A10d, n10d, c10d, rfl⟩ := RAt.val hu10
            clear hu10
            apply wpQ_fresh (i := 18) LInv.std (by with_reducible (refine zA ?_; (repeat (first | exact zB | refine zC ?_)))) (by kernel_rfl) (fun g => Value.pointer (some ⟨g, 0, none⟩)) (by exact rfl); (focus (intro W; go_simp; first | done | exact rfl | exact ⟨rfl, rfl⟩))
            intro g_r hN_r hG_r K hK
            go_simp; refine hK _ ?_; clear hK K
            have hne : w2.heap.size ≠ g_r := by have := hN_r; omega
            have hne' := Ne.symm hne
            refine wpQ_done (by kernel_rfl) ?_
            intro w11 hF_w11 hSG
            have hz_w11 := hSG.1.1
            have hb_w11 := hSG.1.2
            have hB_r := (hSG.2 _ (List.mem_cons_self ..)).2; simp only at hB_r; have hl_r := (hSG.size (List.mem_cons_self ..)); simp only at hl_r
            have c_w11_r_0 := cell_of_row w11 g_r 0 _ _ _ hB_r; simp only [List.getElem?_toArray, List.getElem?_cons_zero] at c_w11_r_0
            have c_w11_r_1 := cell_of_row w11 g_r 1 _ _ _ hB_r; simp only [List.getElem?_toArray, List.getElem?_cons_zero, List.getElem?_cons_succ] at c_w11_r_1
            have c_w11_r_2 := cell_of_row w11 g_r 2 _ _ _ hB_r; simp only [List.getElem?_toArray, List.getElem?_cons_zero, List.getElem?_cons_succ] at c_w11_r_2
            have c_w11_r_3 := cell_of_row w11 g_r 3 _ _ _ hB_r; simp only [List.getElem?_toArray, List.getElem?_cons_zero, List.getElem?_cons_succ] at c_w11_r_3
            have c_w11_r_4 := cell_of_row w11 g_r 4 _ _ _ hB_r; simp only [List.getElem?_toArray, List.getElem?_cons_zero, List.getElem?_cons_succ] at c_w11_r_4
            have c_w11_r_5 := cell_of_row w11 g_r 5 _ _ _ hB_r; simp only [List.getElem?_toArray, List.getElem?_cons_zero, List.getElem?_cons_succ] at c_w11_r_5
            have fz_w11_r : (∀ o, w11.frozen? ⟨g_r, o, none⟩ = false) := (fun o => frozen_of_row w11 g_r o _ _ hB_r); have HH_r := Lib.hid hB_r; clear hB_r
            clear hSG
            (with_reducible apply cel10 (b := w2.heap.size) hb_w11); (focus ((try simp) <;> omega)); (focus omega); (iterate 10 (focus (go_simp; try exact rfl))); (focus (intro o; go_simp)); intro c_w11_0_0 c_w11_0_1 c_w11_0_2 c_w11_0_3 c_w11_0_4 c_w11_0_5 c_w11_0_6 c_w11_0_7 c_w11_0_8 c_w11_0_9 fz_w11_0 hl_w11_0
            (try simp only [List.filterMap_cons, List.filterMap_nil, List.getElem?_cons_succ, List.getElem?_cons_zero])
            have HX := Lib.hid (show RAt w11 (.agg #[.bool s10x, .slice A10x n10x c10x, .bool s10y, .slice A10y n10y c10y, .bool s10d, .slice A10d n10d c10d]) (X1) (X2) (X3) from hF_w11.2)
            have HC11 := Lib.hid hb_w11
            have hz11 := hb_w11.size
            have hn_r : w7.heap.size ≤ g_r := hN_r
            have hzr : w2.heap.size + 1 ≤ w11.heap.size := by have := HB6.out.size; omega
            clear hF_w11 hb_w11 HH_r hG_r hN_r q0 q1
            clear c_w7_0_0 c_w7_0_1 c_w7_0_2 c_w7_0_3 c_w7_0_4 c_w7_0_5 c_w7_0_6 c_w7_0_7 c_w7_0_8 c_w7_0_9 fz_w7_0 hl_w7_0
            go_wp2_with fail
            refine HQ_.out _ _ _ ?_
            clear HQ_ Q_
            go_wp2_with fail
            (go_at_call 17; refine (KM.out _ _ _ (rsat_new _ _ (by simp) (by ((repeat (first | (with_reducible exact HX.out) | (with_reducible refine RAt.al ?_ _) | (with_reducible apply RAt.st1))) <;> (first | (with_reducible assumption) | (intro _ e; cases e; done) | (go_simp; first | done | exact rfl)))))).mono ?_; rintro e w12 ⟨rfl, hb_w12⟩; have hz_w12 := hb_w12.size; (try simp at hz_w12); (with_reducible apply cel10 (b := w2.heap.size) hb_w12); (focus ((try simp) <;> omega)); (focus omega); (iterate 10 (focus (go_simp; try exact rfl))); (focus (intro o; go_simp)); intro c_w12_0_0 c_w12_0_1 c_w12_0_2 c_w12_0_3 c_w12_0_4 c_w12_0_5 c_w12_0_6 c_w12_0_7 c_w12_0_8 c_w12_0_9 fz_w12_0 hl_w12_0; (with_reducible apply cel6 (b := g_r) hb_w12); (focus ((try simp) <;> omega)); (focus omega); (iterate 6 (focus (go_simp; try exact rfl))); (focus (intro o; go_simp)); intro c_w12_1_0 c_w12_1_1 c_w12_1_2 c_w12_1_3 c_w12_1_4 c_w12_1_5 fz_w12_1 hl_w12_1)
            have HC12 := Lib.hid (show Below w7.heap.size w7 w12 by have hB := HC11.out; ((with_reducible (repeat (first | exact bR _ _ | refine bS ?_ ?_ _ | refine bA ?_ ?_ _ | refine bD ?_ | refine bT ?_ (by assumption) ?_ | refine bO (by assumption) ?_ ?_))) <;> (first | omega | (simp <;> omega))))
            have HB12 := Lib.hid (HB7.out.trans (HC12.out.mono (by have := HB7.out.size; omega)))
            obtain ⟨go, oo, rfl, hgo, z0, z1⟩ := (HO7.out.below HC12.out (Nat.le_refl _)) ma.toNat _ HVL.out
            simp only at z0 z1
            have hgne : ¬ go = w12.heap.size := by omega
            have hgne' : ¬ w12.heap.size = go := by omega
            have hz212 := HB12.out.size
            clear hb_w12 HC11 HX
            clear c_w11_r_0 c_w11_r_1 c_w11_r_2 c_w11_r_3 c_w11_r_4 c_w11_r_5 fz_w11_r c_w11_0_0 c_w11_0_1 c_w11_0_2 c_w11_0_3 c_w11_0_4 c_w11_0_5 c_w11_0_6 c_w11_0_7 c_w11_0_8 c_w11_0_9 fz_w11_0 hl_w11_0
            go_wp2_with fail
            (refine pin_wp (N := _) (Nat.le_refl _) (fun w13 hb_w13 hz_w13 => ?_); (try simp at hz_w13); (with_reducible apply cel10 (b := w2.heap.size) hb_w13); (focus ((try simp) <;> omega)); (focus omega); (iterate 10 (focus (go_simp; try exact rfl))); (focus (intro o; go_simp)); intro c_w13_0_0 c_w13_0_1 c_w13_0_2 c_w13_0_3 c_w13_0_4 c_w13_0_5 c_w13_0_6 c_w13_0_7 c_w13_0_8 c_w13_0_9 fz_w13_0 hl_w13_0; (with_reducible apply cel2 (b := w12.heap.size) hb_w13); (focus ((try simp) <;> omega)); (focus omega); (iterate 2 (focus (go_simp; try exact rfl))); (focus (intro o; go_simp)); intro c_w13_1_0 c_w13_1_1 fz_w13_1 hl_w13_1)
            have HB13 := Lib.hid (show Below w2.heap.size w2 w13 by have hB := HB12.out; ((with_reducible (repeat (first | exact bR _ _ | refine bS ?_ ?_ _ | refine bA ?_ ?_ _ | refine bD ?_ | refine bT ?_ (by assumption) ?_ | refine bO (by assumption) ?_ ?_))) <;> (first | omega | (simp <;> omega))))
            have z0' : w13.cell? ⟨go, oo + ma.toNat * 2, none⟩ = some (.int .i64 (min (max mx (-65536)) 65536)) := (hb_w13.cell (by simp; omega)).trans (by go_simp)
            have z1' : w13.cell? ⟨go, oo + ma.toNat * 2 + 1, none⟩ = some (.int .i64 (min (max my (-65536)) 65536)) := (hb_w13.cell (by simp; omega)).trans (by go_simp)
            have hgo13 : go < w13.heap.size := by omega
            clear hb_w13 z0 z1 hgo
            refine wp_region_warm (Own w13.heap.size w13) (by kernel_rfl) (by kernel_rfl) (Own.refl (Nat.le_refl _)).drew ?_
            repeat (first | (refine wpWarm_step_off rfl (fun K hK => ?_); (go_simp; refine hK _ ?_; clear hK K)) | (apply wpWarm_step rfl; (focus (intro W' hS; have hcS := hS.cells.1; have hfS := hS.cells.2; go_simp; (first | done | exact rfl | exact ⟨rfl, hS⟩ | (go_simp; exact rfl)))); (intro K hK; go_simp; (try go_bits); refine hK _ ?_; clear hK K)) | (apply wpWarm_step_on rfl; (focus (intro W' hS; have hcS := hS.cells.1; have hfS := hS.cells.2; go_simp; (first | done | exact rfl | exact ⟨rfl, hS⟩ | (go_simp; exact rfl)))); (intro K hK; go_simp; (try go_bits); refine hK _ ?_; clear hK K)))
            (refine wpWarm_nil ?_; intro w14 hO; have hz_w14 := hO.1; have hb_w14 := hO.2; clear hO; skip)
            have HB14 := Lib.hid (HW.out.trans ((HB13.out.trans (hb_w14.mono (by have := HB13.out.size; omega))).mono (by omega)))
            clear hb_w14 z0' z1'
            go_wp2_with fail
            go_roundw
            case rel => exact ⟨k + 1, by omega, by omega, by go_num, HB14⟩
            case measure => simp [intOf]; omega
    · have hcase : ¬ (k : Int) < (l.length : Int) ∨ ((k : Int) < (l.length : Int) ∧ ¬ (k : Int) < 3) := by omega
      rcases hcase with h1 | ⟨h1, h2⟩
      all_goals
        go_wp2_with fail
        go_ret
        exact ⟨rfl, HB2.out⟩
end Go.Proofs.YtgejdaincnclpaaGreat
namespace Go.Proofs.YtgejdaincnclpaaGreat.lawC1
open Go.ChangeShapes Go.WideShapes Go.ChangeAt Go.RowKit
set_option linter.unusedVariables false
theorem walk (w : World) (a0 : Option Addr) (len0 cap0 n0 : Nat) (w0 : RowIs Tryz.prog w n0 22 [.slice a0 len0 cap0]) (a1 : Option Addr) (len1 cap1 n1 : Nat) (w1 : RowIs Tryz.prog w n1 23 [.slice a1 len1 cap1]) :
    Calls Tryz.prog 4 #[.slice a0 len0 cap0, .slice a1 len1 cap1] w fun e w' => e = .returned (.bool true) ∧ Below w.heap.size w w' := by
  obtain ⟨hm, l, rfl, hM, _⟩ := meetings_open w0
  obtain ⟨_, v, rfl, hV, _⟩ := vs_open w1
  exact one_law l a0 cap0 v a1 cap1 w hM hV
theorem own : ownKnob Tryz.prog.godebug = none := by kernel_rfl
theorem laidOut : laidOutB Tryz.prog = true := by kernel_rfl
set_option maxRecDepth 100000 in
theorem lifted (os : Os) (started : os.Started) (H : Type) (enc : TypeId × Value → H) :
    ReturnsInHanded {} Tryz.checked os 4 .any (Rows.clusterOneSpec.pre6 enc Tryz.prog Tryz.f4 Rows.clusterOneRow.domain false) (Rows.clusterOneSpec.post enc Tryz.prog Tryz.f4 false true false false) := by
  refine returnsInHanded_of_change (C := Tryz.checked) own started (by kernel_rfl) Tryz.func4
    (ChangeSpec.witness6 (enc := enc) (C := Tryz.checked) false ⟨#[], #[.slice none 0 0, .slice none 0 0], []⟩ 8 (by kernel_rfl) (by kernel_rfl) (by kernel_rfl) (by kernel_rfl)) ?_
  intro W base args ds gs before hval0 hW hcnd _
  have hval : ∀ (j : Nat) t v, Tryz.f4.params[j]? = some t → args[j]? = some v → Value.okWide Tryz.prog W .any base t v := hval0
  have hW' := hW
  obtain ⟨p, q, hA0, hV, rfl, hfz, hnd⟩ := hW
  have hA : DataW.TrodAll enc Tryz.prog W 0 (fun _ => true) true Tryz.f4.params.toList args.toList ds p := hA0
  rw [Tryz.params4] at hA hval


  obtain ⟨v0, vs0, d0, ds0, p0, q0, hargs, rfl, rfl, h0, r0⟩ := trodAll_cons hA
  obtain ⟨v1, vs1, d1, ds1, p1, q1, rfl, rfl, rfl, h1, r1⟩ := trodAll_cons r0
  obtain ⟨rfl, rfl, rfl⟩ := trodAll_nil r1
  obtain rfl : args = #[v0, v1] := by cases args; simp_all
  obtain ⟨rfl, rfl⟩ := trodVars_none hV
  obtain ⟨a0, len0, cap0, rfl⟩ := okWide_slice Tryz.underlying22 (hval 0 22 v0 rfl rfl)
  have k0 := h0
  have lt0 : ∀ x ∈ p0, x.block < W.heap.size := by obtain ⟨m, hm⟩ := k0; exact DataW.trod_lt m _ _ _ hm
  obtain ⟨n0, w0⟩ : ∃ n, RowIs Tryz.prog W n 22 [.slice a0 len0 cap0] := by obtain ⟨fuel, hf⟩ := h0; exact ⟨fuel, rowIs_of_trod fuel _ _ _ hf⟩
  obtain ⟨a1, len1, cap1, rfl⟩ := okWide_slice Tryz.underlying23 (hval 1 23 v1 rfl rfl)
  have k1 := h1
  have lt1 : ∀ x ∈ p1, x.block < W.heap.size := by obtain ⟨m, hm⟩ := k1; exact DataW.trod_lt m _ _ _ hm
  obtain ⟨n1, w1⟩ : ∃ n, RowIs Tryz.prog W n 23 [.slice a1 len1 cap1] := by obtain ⟨fuel, hf⟩ := h1; exact ⟨fuel, rowIs_of_trod fuel _ _ _ hf⟩
  clear hA0 hval0
  refine (walk W a0 len0 cap0 n0 w0 a1 len1 cap1 n1 w1).mono fun e W' ⟨he, bel⟩ => ?_
  subst he
  exact ⟨_, rfl, _, _, _, [], _, [], hW', trodAll_mk1 (shut_bool Tryz.underlying4 _), (trodAll_cons_mk (Below.trod laidOut (by kernel_rfl) (of_decide_eq_true (by kernel_rfl)) k0 bel lt0) (trodAll_cons_mk (Below.trod laidOut (by kernel_rfl) (of_decide_eq_true (by kernel_rfl)) k1 bel lt1) trodAll_mk0)), rfl, bel.frame _, fun h => by cases h⟩
theorem over : Rows.clusterOneRow.holds Tryz.pinned (OpenSpec.ofChange Rows.clusterOneSpec) :=
  OpenClaim.holds_of_wide 4 Tryz.f4 rfl rfl rfl rfl rfl rfl rfl ⟨rfl, rfl, rfl, rfl, rfl⟩ rfl rfl rfl rfl rfl (by kernel_rfl) Tryz.func4 (by kernel_rfl)
    (of_decide_eq_true (by kernel_rfl)) (by unfold Func.isWrapper; first | (rw [if_pos (by decide +kernel)]; kernel_rfl) | (rw [if_neg (by decide +kernel)]; exact ⟨rfl, rfl⟩))
    (fun os started H enc _ => lifted os started H enc)
theorem proved : Rows.ClusterOneSaid := over
#print axioms proved
end Go.Proofs.YtgejdaincnclpaaGreat.lawC1
