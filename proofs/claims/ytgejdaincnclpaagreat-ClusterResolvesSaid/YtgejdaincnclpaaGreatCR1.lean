/- Merged texts: Open OpenV OpenVs OpenL ClO RsA RsL RsP RsE (what no proof of the claim needs is left out). -/
import Derived.Test.YtgejdaincnclpaaGreatCh8
import Derived.ProofKit
import Derived.OpenShut
import Derived.ChangeOld
import Derived.Below
import Derived.Carry
import Derived.Test.YtgejdaincnclpaaGreatProg
import Derived.KernelRfl
namespace Go.Proofs.YtgejdaincnclpaaGreat
open Go Go.ChangeShapes Go.WideShapes Go.ChangeAt Go.RowKit
def RowIs (P : Program) (w : World) : Nat → TypeId → List Value → Prop
  | 0, _, _ => False
  | n + 1, t, cs =>
    match P.underlying t with
    | some (.int k) => ∃ z, cs = [.int k z] ∧ (Lit.int k z).wf = true
    | some .bool => ∃ b, cs = [.bool b]
    | some .string => ∃ s : ByteArray, cs = [.string s] ∧ s.size ≤ maxLen
    | some (.struct fs) => cs.length = P.cellsOf t ∧ ∀ f ∈ fs.toList, RowIs P w n f.type ((cs.drop f.offset).take (P.cellsOf f.type))
    | some (.slice e) => cs = [.slice none 0 0] ∨ ∃ (a : Addr) (len cap : Nat), cs = [.slice (some a) len cap] ∧ len ≤ cap ∧ cap ≤ maxLen ∧
        ∀ i, i < len → ∃ row, row.length = P.cellsOf e ∧ (∀ j v, row[j]? = some v → w.cell? (a.add (i * P.cellsOf e + j)) = some v) ∧ RowIs P w n e row
    | _ => True
section
variable {H : Type} {enc : TypeId × Value → H} {P : Program} {w : World}
theorem cells_at {base : Nat} {a : Addr} {n : Nat} {row : List Value} (h : w.cells? base a n = some row) : row.length = n ∧ ∀ j v, row[j]? = some v → w.cell? (a.add j) = some v := by
 unfold World.cells? at h
 split at h
 · have hl := mapM_some_length h
   simp at hl
   refine ⟨hl, fun j v hj => ?_⟩
   have hlt : j < n := by rw [← hl]; exact (List.getElem?_eq_some_iff.1 hj).1
   have := mapM_some_get h j j (by simp [hlt])
   rw [this, hj]
 · cases h
theorem add_add' (a : Addr) (i j : Nat) : (a.add i).add j = a.add (i + j) := by
 unfold Addr.add
 by_cases hi : i = 0 <;> by_cases hj : j = 0 <;> simp [hi, hj, Nat.add_assoc]
theorem rowIs_of_trod {base : Nat} {spare : Nat → Bool} {held : Bool} : ∀ (fuel : Nat) (t : TypeId) (cs : List Value) (x : DataW H × List MemPlace), DataW.trod enc P w base spare held fuel t cs = some x → RowIs P w fuel t cs := by
 intro fuel
 induction fuel with
 | zero => intro t cs x h; simp [DataW.trod] at h
 | succ n ih =>
  intro t cs x h
  cases hu : P.underlying t with
  | none => simp only [RowIs, hu]
  | some d =>
   cases d with
   | bool => obtain ⟨b, hb, _⟩ := DataW.trod_bool hu h; simp only [RowIs, hu]; exact ⟨b, hb⟩
   | int k => obtain ⟨z, hz, _, hw⟩ := DataW.trod_int hu h; simp only [RowIs, hu]; exact ⟨z, hz, hw⟩
   | string => obtain ⟨s, hs, _, hw⟩ := DataW.trod_string hu h; simp only [RowIs, hu]; exact ⟨s, hs, hw⟩
   | struct fs =>
    obtain ⟨xs, m, hm, _, hl, hxl, hf⟩ := DataW.trod_struct hu h
    obtain rfl : m = n := by omega
    simp only [RowIs, hu]
    refine ⟨hl, fun f hfm => ?_⟩
    obtain ⟨i, hi⟩ := List.getElem?_of_mem hfm
    have h1 := hf i f (by simpa using hi)
    have hlt : i < xs.length := by rw [hxl]; have := (List.getElem?_eq_some_iff.1 hi).1; simpa using this
    rw [List.getElem?_eq_getElem hlt] at h1
    exact ih _ _ _ h1
   | slice e =>
    simp only [RowIs, hu]
    rcases DataW.trod_slice hu h with ⟨h0, _⟩ | ⟨a, len, cap, elems, rest, m, hm, hcs, _, _, hlc, hcap, hel, hat, _⟩
    · exact .inl h0
    · obtain rfl : m = n := by omega
      refine .inr ⟨a, len, cap, hcs, hlc, hcap, fun i hi => ?_⟩
      have h1 := hat i hi
      have hlt : i < elems.length := by omega
      rw [List.getElem?_eq_getElem hlt] at h1
      obtain ⟨row, hr, ht⟩ := Option.bind_eq_some_iff.1 h1
      obtain ⟨hl, hc⟩ := cells_at hr
      exact ⟨row, hl, fun j v hj => by rw [← add_add']; exact hc j v hj, ih _ _ _ ht⟩
   | _ => simp only [RowIs, hu]
theorem rowIs_int {n : Nat} {t : TypeId} {k : IntKind} {cs : List Value} (hu : P.underlying t = some (.int k)) (h : RowIs P w n t cs) : ∃ z, cs = [.int k z] ∧ (Lit.int k z).wf = true := by
 cases n with
 | zero => exact h.elim
 | succ n => simpa only [RowIs, hu] using h
theorem rowIs_struct {n : Nat} {t : TypeId} {fs : Array Field} {cs : List Value} (hu : P.underlying t = some (.struct fs)) (h : RowIs P w n t cs) :
  cs.length = P.cellsOf t ∧ ∃ m, ∀ f ∈ fs.toList, RowIs P w m f.type ((cs.drop f.offset).take (P.cellsOf f.type)) := by
 cases n with
 | zero => exact h.elim
 | succ n => simp only [RowIs, hu] at h; exact ⟨h.1, n, h.2⟩
theorem rowIs_slice {n : Nat} {t e : TypeId} {cs : List Value} (hu : P.underlying t = some (.slice e)) (h : RowIs P w n t cs) :
  cs = [.slice none 0 0] ∨ ∃ (a : Addr) (len cap m : Nat), cs = [.slice (some a) len cap] ∧ len ≤ cap ∧ cap ≤ maxLen ∧
    ∀ i, i < len → ∃ row, row.length = P.cellsOf e ∧ (∀ j v, row[j]? = some v → w.cell? (a.add (i * P.cellsOf e + j)) = some v) ∧ RowIs P w m e row := by
 cases n with
 | zero => exact h.elim
 | succ n =>
  simp only [RowIs, hu] at h
  rcases h with h | ⟨a, len, cap, h1, h2, h3, h4⟩
  · exact .inl h
  · exact .inr ⟨a, len, cap, n, h1, h2, h3, h4⟩
theorem len1 {α : Type} {l : List α} (h : l.length = 1) : ∃ a, l = [a] := by
 match l, h with
 | [a], _ => exact ⟨a, rfl⟩
theorem len2 {α : Type} {l : List α} (h : l.length = 2) : ∃ a b, l = [a, b] := by
 match l, h with
 | [a, b], _ => exact ⟨a, b, rfl⟩
theorem all2 {α : Type} {p : α → Prop} {a b : α} (h : ∀ x ∈ (#[a, b] : Array α).toList, p x) : p a ∧ p b := ⟨h a (by simp), h b (by simp)⟩
theorem wf_bd {z : Int} (h : (Lit.int .i64 z).wf = true) : -9223372036854775808 ≤ z ∧ z ≤ 9223372036854775807 := by
 simp [Lit.wf, IntKind.min, IntKind.max, IntKind.signed, IntKind.bits] at h
 omega
end
end Go.Proofs.YtgejdaincnclpaaGreat
namespace Go.Proofs.YtgejdaincnclpaaGreat
open Go
def Bd (z : Int) : Prop := -9223372036854775808 ≤ z ∧ z ≤ 9223372036854775807
theorem cells_int : Tryz.prog.cellsOf 3 = 1 := by kernel_rfl
theorem cells_vec : Tryz.prog.cellsOf 38 = 2 := by kernel_rfl
theorem row_vec {w : World} {n : Nat} {cs : List Value} (h : RowIs Tryz.prog w n 38 cs) : ∃ x y : Int, cs = [.int .i64 x, .int .i64 y] ∧ Bd x ∧ Bd y := by
 obtain ⟨hl, m, hf⟩ := rowIs_struct Tryz.underlying38 h
 rw [cells_vec] at hl
 obtain ⟨c0, c1, rfl⟩ := len2 hl
 obtain ⟨h0, h1⟩ := all2 hf
 simp only [cells_int, List.drop_zero, List.drop_succ_cons, List.take_succ_cons, List.take_zero] at h0 h1
 obtain ⟨x, hx, wx⟩ := rowIs_int Tryz.underlying3 h0
 obtain ⟨y, hy, wy⟩ := rowIs_int Tryz.underlying3 h1
 simp only [List.cons.injEq, and_true] at hx hy
 exact ⟨x, y, by rw [hx, hy], wf_bd wx, wf_bd wy⟩
theorem vs_open {w : World} {n : Nat} {A : Option Addr} {len cap : Nat} (h : RowIs Tryz.prog w n 23 [.slice A len cap]) :
  len ≤ maxLen ∧ ∃ l : List V2, l.length = len ∧ VAt w A l ∧ ∀ x ∈ l, Bd x.1 ∧ Bd x.2 := by
 have none0 : len = 0 → len ≤ maxLen ∧ ∃ l : List V2, l.length = len ∧ VAt w A l ∧ ∀ x ∈ l, Bd x.1 ∧ Bd x.2 := fun h0 => by
  subst h0
  exact ⟨by unfold maxLen; omega, [], rfl, VAt.nil _ _, by simp⟩
 rcases rowIs_slice Tryz.underlying23 h with h0 | ⟨a, len', cap', m, hcs, hlc, hcap, hrows⟩
 · simp only [List.cons.injEq, Value.slice.injEq, and_true] at h0
   exact none0 h0.2.1
 · simp only [List.cons.injEq, Value.slice.injEq, and_true] at hcs
   obtain ⟨rfl, rfl, rfl⟩ := hcs
   rcases Nat.eq_zero_or_pos len with h0 | h0
   · exact none0 h0
   · refine ⟨by omega, ?_⟩
     have hr : ∀ i, i < len → ∃ x : V2, (Bd x.1 ∧ Bd x.2) ∧ ∀ j v, [Value.int .i64 x.1, .int .i64 x.2][j]? = some v → w.cell? (a.add (i * 2 + j)) = some v := by
      intro i hi
      obtain ⟨row, hl, hc, hrow⟩ := hrows i hi
      obtain ⟨x, y, rfl, hs⟩ := row_vec hrow
      rw [cells_vec] at hc
      exact ⟨(x, y), hs, hc⟩
     obtain ⟨x0, _, hx0⟩ := hr 0 h0
     have hc0 := hx0 0 _ rfl
     obtain ⟨g, o, spot⟩ := a
     have hsp : spot = none := by simpa [Addr.add] using World.cell?_spot hc0
     subst hsp
     have hg : g < w.heap.size := by
      have := World.block_lt_of_cell? w _ hc0
      simpa [Addr.add] using this
     clear hc0 hx0
     have build : ∀ m, m ≤ len → ∃ l : List V2, l.length = m ∧ (∀ k x, l[k]? = some x → (Bd x.1 ∧ Bd x.2) ∧ ∀ j v, [Value.int .i64 x.1, .int .i64 x.2][j]? = some v → w.cell? ((⟨g, o, none⟩ : Addr).add (k * 2 + j)) = some v) := by
      intro m
      induction m with
      | zero => intro _; exact ⟨[], rfl, fun k x h => by simp at h⟩
      | succ m ih =>
       intro hm
       obtain ⟨l, hl, hp⟩ := ih (by omega)
       obtain ⟨x, hx⟩ := hr m (by omega)
       refine ⟨l ++ [x], by simp [hl], fun k y hk => ?_⟩
       rcases Nat.lt_or_ge k l.length with h | h
       · rw [List.getElem?_append_left h] at hk; exact hp k y hk
       · rw [List.getElem?_append_right h] at hk
         have hk0 : k = m := by
          have := (List.getElem?_eq_some_iff.1 hk).1
          simp at this; omega
         subst hk0
         rw [hl, Nat.sub_self] at hk
         simp only [List.getElem?_cons_zero, Option.some.injEq] at hk
         subst hk
         exact hx
     obtain ⟨l, hl, hp⟩ := build len (Nat.le_refl _)
     have hadd : ∀ j, (⟨g, o, none⟩ : Addr).add j = ⟨g, o + j, none⟩ := by intro j; unfold Addr.add; split <;> simp_all
     refine ⟨l, hl, fun k x hx => ⟨g, o, rfl, hg, ?_, ?_⟩, fun x hx => ?_⟩
     · have := (hp k x hx).2 0 _ rfl; rwa [hadd, Nat.add_zero] at this
     · have := (hp k x hx).2 1 _ rfl; rwa [hadd, ← Nat.add_assoc] at this
     · obtain ⟨k, hk⟩ := List.getElem?_of_mem hx
       exact (hp k x hk).1
end Go.Proofs.YtgejdaincnclpaaGreat
namespace Go.Proofs.YtgejdaincnclpaaGreat
open Go Go.RowKit
theorem slice_open {α : Type} {w : World} {n : Nat} {t e : TypeId} {A : Option Addr} {len cap size : Nat} (hu : Tryz.prog.underlying t = some (.slice e)) (h : RowIs Tryz.prog w n t [.slice A len cap]) (hc : Tryz.prog.cellsOf e = size)
  (cells : α → List Value) (ok : α → Prop) (hpos : ∀ x, ∃ v r, cells x = v :: r) (hrow : ∀ m row, RowIs Tryz.prog w m e row → ∃ x, ok x ∧ row = cells x) :
  len ≤ maxLen ∧ ∃ l : List α, l.length = len ∧ (∀ x ∈ l, ok x) ∧ ∀ k x, l[k]? = some x → ∃ g o, A = some ⟨g, o, none⟩ ∧ g < w.heap.size ∧ ∀ j v, (cells x)[j]? = some v → w.cell? ⟨g, o + (k * size + j), none⟩ = some v := by
 have none0 : len = 0 → len ≤ maxLen ∧ ∃ l : List α, l.length = len ∧ (∀ x ∈ l, ok x) ∧ ∀ k x, l[k]? = some x → ∃ g o, A = some ⟨g, o, none⟩ ∧ g < w.heap.size ∧ ∀ j v, (cells x)[j]? = some v → w.cell? ⟨g, o + (k * size + j), none⟩ = some v := fun h0 => by
  subst h0
  exact ⟨by unfold maxLen; omega, [], rfl, by simp, fun k x h => by simp at h⟩
 rcases rowIs_slice hu h with h0 | ⟨a, len', cap', m, hcs, hlc, hcap, hrows⟩
 · simp only [List.cons.injEq, Value.slice.injEq, and_true] at h0
   exact none0 h0.2.1
 · simp only [List.cons.injEq, Value.slice.injEq, and_true] at hcs
   obtain ⟨rfl, rfl, rfl⟩ := hcs
   rcases Nat.eq_zero_or_pos len with h0 | h0
   · exact none0 h0
   · refine ⟨by omega, ?_⟩
     have hr : ∀ i, i < len → ∃ x : α, ok x ∧ ∀ j v, (cells x)[j]? = some v → w.cell? (a.add (i * size + j)) = some v := by
      intro i hi
      obtain ⟨row, hl, hc', hrw⟩ := hrows i hi
      obtain ⟨x, hx, rfl⟩ := hrow _ _ hrw
      rw [hc] at hc'
      exact ⟨x, hx, hc'⟩
     obtain ⟨x0, _, hx0⟩ := hr 0 h0
     obtain ⟨v0, r0, e0⟩ := hpos x0
     have hc0 := hx0 0 v0 (by rw [e0]; rfl)
     obtain ⟨g, o, spot⟩ := a
     have hsp : spot = none := by simpa [Addr.add] using World.cell?_spot hc0
     subst hsp
     have hg : g < w.heap.size := by
      have := World.block_lt_of_cell? w _ hc0
      simpa [Addr.add] using this
     clear hc0 hx0 e0
     have build : ∀ m, m ≤ len → ∃ l : List α, l.length = m ∧ (∀ k x, l[k]? = some x → ok x ∧ ∀ j v, (cells x)[j]? = some v → w.cell? ((⟨g, o, none⟩ : Addr).add (k * size + j)) = some v) := by
      intro m
      induction m with
      | zero => intro _; exact ⟨[], rfl, fun k x h => by simp at h⟩
      | succ m ih =>
       intro hm
       obtain ⟨l, hl, hp⟩ := ih (by omega)
       obtain ⟨x, hx⟩ := hr m (by omega)
       refine ⟨l ++ [x], by simp [hl], fun k y hk => ?_⟩
       rcases Nat.lt_or_ge k l.length with h | h
       · rw [List.getElem?_append_left h] at hk; exact hp k y hk
       · rw [List.getElem?_append_right h] at hk
         have hk0 : k = m := by
          have := (List.getElem?_eq_some_iff.1 hk).1
          simp at this; omega
         subst hk0
         rw [hl, Nat.sub_self] at hk
         simp only [List.getElem?_cons_zero, Option.some.injEq] at hk
         subst hk
         exact hx
     obtain ⟨l, hl, hp⟩ := build len (Nat.le_refl _)
     have hadd : ∀ j, (⟨g, o, none⟩ : Addr).add j = ⟨g, o + j, none⟩ := by intro j; unfold Addr.add; split <;> simp_all
     refine ⟨l, hl, fun x hx => ?_, fun k x hx => ⟨g, o, rfl, hg, fun j v hj => ?_⟩⟩
     · obtain ⟨k, hk⟩ := List.getElem?_of_mem hx
       exact (hp k x hk).1
     · have := (hp k x hx).2 j v hj; rwa [hadd] at this
def Mt.bd (m : Mt) : Prop := (Bd m.a ∧ Bd m.b) ∧ (Bd m.n1 ∧ Bd m.n2) ∧ (Bd m.w1 ∧ Bd m.w2) ∧ (Bd m.k1 ∧ Bd m.k2) ∧ Bd m.e ∧ Bd m.g
theorem cells_meeting : Tryz.prog.cellsOf 40 = 10 := by kernel_rfl
theorem len10 {α : Type} {l : List α} (h : l.length = 10) : ∃ a b c d e f g i j k, l = [a, b, c, d, e, f, g, i, j, k] := by
 match l, h with
 | [a, b, c, d, e, f, g, i, j, k], _ => exact ⟨a, b, c, d, e, f, g, i, j, k, rfl⟩
theorem all7 {α : Type} {p : α → Prop} {a b c d e f g : α} (h : ∀ x ∈ (#[a, b, c, d, e, f, g] : Array α).toList, p x) : p a ∧ p b ∧ p c ∧ p d ∧ p e ∧ p f ∧ p g := ⟨h a (by simp), h b (by simp), h c (by simp), h d (by simp), h e (by simp), h f (by simp), h g (by simp)⟩
theorem row_meeting {w : World} {n : Nat} {cs : List Value} (h : RowIs Tryz.prog w n 40 cs) : ∃ x : Mt, x.bd ∧ cs = x.cells := by
 obtain ⟨hl, m, hf⟩ := rowIs_struct Tryz.underlying40 h
 rw [cells_meeting] at hl
 obtain ⟨c0, c1, c2, c3, c4, c5, c6, c7, c8, c9, rfl⟩ := len10 hl
 obtain ⟨h0, h1, h2, h3, h4, h5, h6⟩ := all7 hf
 simp only [cells_int, cells_vec, List.drop_zero, List.drop_succ_cons, List.take_succ_cons, List.take_zero] at h0 h1 h2 h3 h4 h5 h6
 obtain ⟨z0, e0, w0⟩ := rowIs_int Tryz.underlying3 h0
 obtain ⟨z1, e1, w1⟩ := rowIs_int Tryz.underlying3 h1
 obtain ⟨x2, y2, e2, b2, d2⟩ := row_vec h2
 obtain ⟨x3, y3, e3, b3, d3⟩ := row_vec h3
 obtain ⟨x4, y4, e4, b4, d4⟩ := row_vec h4
 obtain ⟨z5, e5, w5⟩ := rowIs_int Tryz.underlying3 h5
 obtain ⟨z6, e6, w6⟩ := rowIs_int Tryz.underlying3 h6
 simp only [List.cons.injEq, and_true] at e0 e1 e2 e3 e4 e5 e6
 exact ⟨⟨z0, z1, x2, y2, x3, y3, x4, y4, z5, z6⟩, ⟨⟨wf_bd w0, wf_bd w1⟩, ⟨b2, d2⟩, ⟨b3, d3⟩, ⟨b4, d4⟩, wf_bd w5, wf_bd w6⟩, by rw [e0, e1, e2.1, e2.2, e3.1, e3.2, e4.1, e4.2, e5, e6]; rfl⟩
theorem meetings_open {w : World} {n : Nat} {A : Option Addr} {len cap : Nat} (h : RowIs Tryz.prog w n 22 [.slice A len cap]) : len ≤ maxLen ∧ ∃ l : List Mt, l.length = len ∧ MAt w A l ∧ ∀ x ∈ l, x.bd := by
 obtain ⟨h1, l, hl, hok, hp⟩ := slice_open Tryz.underlying22 h cells_meeting Mt.cells Mt.bd (fun x => ⟨_, _, rfl⟩) (fun m row hr => row_meeting hr)
 refine ⟨h1, l, hl, fun k x hx => ?_, hok⟩
 obtain ⟨g, o, hA, hg, hc⟩ := hp k x hx
 have c0 := hc 0 _ rfl
 have c1 := hc 1 _ rfl
 have c2 := hc 2 _ rfl
 have c3 := hc 3 _ rfl
 have c4 := hc 4 _ rfl
 have c5 := hc 5 _ rfl
 have c6 := hc 6 _ rfl
 have c7 := hc 7 _ rfl
 have c8 := hc 8 _ rfl
 have c9 := hc 9 _ rfl
 simp only [← Nat.add_assoc, Nat.add_zero] at c0 c1 c2 c3 c4 c5 c6 c7 c8 c9
 exact ⟨g, o, hA, hg, c0, c1, c2, c3, c4, c5, c6, c7, c8, c9⟩
end Go.Proofs.YtgejdaincnclpaaGreat
namespace Go.Proofs.YtgejdaincnclpaaGreat
open Go Go.RowKit
set_option linter.unusedVariables false
theorem rpart_any (x : Int) (w : World) :
  Calls Tryz.prog 41 #[.int .i64 x] w fun e w' => e = .returned (.bool (sixB x)) ∧ Below w.heap.size w w' := by
 go_enter Tryz.func41, Tryz.ntmps41; (try simp only [List.append_eq, List.cons_append, List.nil_append])
 go_wp2
 all_goals
  go_ret
  refine ⟨ret_bool (bool_iff ?_), Below.refl _ _⟩
  simp only [sixB, decide_eq_true_eq, Bool.false_eq_true, false_iff]; omega
set_option maxRecDepth 100000 in
set_option maxHeartbeats 8000000 in
theorem rscaled_any (x y : Int) (w : World) (hx : -4611686018427387904 ≤ x ∧ x ≤ 4611686018427387904) (hy : -4611686018427387904 ≤ y ∧ y ≤ 4611686018427387904) :
  Calls Tryz.prog 42 #[.int .i64 x, .int .i64 y] w (ZOut (x * y) w) := by
 have k1 := fun w => of_any x w (by omega) (by omega)
 have k2 := fun w => of_any y w (by omega) (by omega)
 have k3 := fun u v w h1 h2 => times_any 10 u v x y w h1 h2 (by omega)
 have l1 := len_wd (z := x) (by omega) (by omega)
 have l2 := len_wd (z := y) (by omega) (by omega)
 generalize x * y = Z at *
 have K1 := hQ0 k1
 have K2 := hQ0 k2
 have K3 := hQ0 k3
 have L1 := hQ0 l1
 have L2 := hQ0 l2
 clear k1 k2 k3 l1 l2
 go_enter Tryz.func42, Tryz.ntmps42; (try simp only [List.append_eq, List.cons_append, List.nil_append])
 go_wp2_with fail
 (go_at_call 44; refine (K1.out _).mono ?_; rintro e w2 ⟨hb_w2, v2, rfl, hv2⟩; have hz_w2 := hb_w2.size; (try simp at hz_w2); (with_reducible apply cal2 (b := w.heap.size) hb_w2); (focus (go_simp; try exact ⟨rfl, rfl⟩)); intro aF aC aB aH)
 obtain ⟨s2, A2, n2, c2, rfl⟩ := IsC.val hv2
 have HB2 := hQ0 (show Below w.heap.size w w2 by ((with_reducible (repeat (first | exact bR _ _ | apply bS | apply bA | apply bD | refine bT ?_ (by assumption) ?_ | refine bO (by assumption) ?_ ?_))) <;> (first | omega | (simp <;> omega))))
 have hz2 : w.heap.size + 1 ≤ w2.heap.size := by omega
 clear hb_w2
 skip
 have H2 := hQ0 (show IsC w2 (.agg #[.bool s2, .slice A2 n2 c2]) (x) from hv2)
 clear hv2
 go_wp2_with fail
 (go_at_call 44; refine (K2.out _).mono ?_; rintro e w3 ⟨hb_w3, v3, rfl, hv3⟩; have hz_w3 := hb_w3.size; (try simp at hz_w3); (with_reducible apply cal2 (b := w.heap.size) hb_w3); (focus (go_simp; try exact ⟨rfl, rfl⟩)); intro aA aD aE aG)
 obtain ⟨s3, A3, n3, c3, rfl⟩ := IsC.val hv3
 replace H2 := hQ0 (IsC.below (v := .agg #[.bool s2, .slice A2 n2 c2]) (z := x) (by ((with_reducible (repeat (first | exact H2.out | refine IsC.al ?_ _ | apply IsC.st1))) <;> (first | (with_reducible assumption) | (intro _ e; cases e; done) | (go_simp; first | done | exact rfl)))) hb_w3)
 have HB3 := hQ0 (show Below w.heap.size w w3 by have hB := HB2.out; ((with_reducible (repeat (first | exact bR _ _ | apply bS | apply bA | apply bD | refine bT ?_ (by assumption) ?_ | refine bO (by assumption) ?_ ?_))) <;> (first | omega | (simp <;> omega))))
 have hz3 : w.heap.size + 1 ≤ w3.heap.size := by omega
 clear hb_w3
 clear aF aC aB aH
 have H3 := hQ0 (show IsC w3 (.agg #[.bool s3, .slice A3 n3 c3]) (y) from hv3)
 clear hv3
 go_wp2_with fail
 (go_at_call 40; refine (K3.out _ _ _ ((show IsC _ (.agg #[.bool s2, .slice A2 n2 c2]) (x) by ((with_reducible (repeat (first | exact H2.out | refine IsC.al ?_ _ | apply IsC.st1))) <;> (first | (with_reducible assumption) | (intro _ e; cases e; done) | (go_simp; first | done | exact rfl)))).zl L1.out) ((show IsC _ (.agg #[.bool s3, .slice A3 n3 c3]) (y) by ((with_reducible (repeat (first | exact H3.out | refine IsC.al ?_ _ | apply IsC.st1))) <;> (first | (with_reducible assumption) | (intro _ e; cases e; done) | (go_simp; first | done | exact rfl)))).zl L2.out)).mono ?_; rintro e w4 ⟨hb_w4, v4, rfl, hv4⟩; have hz_w4 := hb_w4.size; (try simp at hz_w4); (with_reducible apply cal2 (b := w.heap.size) hb_w4); (focus (go_simp; try exact ⟨rfl, rfl⟩)); intro aI aK aJ aL)
 obtain ⟨s4, A4, n4, c4, rfl⟩ := IsC.val hv4
 clear H2
 clear H3
 have HB4 := hQ0 (show Below w.heap.size w w4 by have hB := HB3.out; ((with_reducible (repeat (first | exact bR _ _ | apply bS | apply bA | apply bD | refine bT ?_ (by assumption) ?_ | refine bO (by assumption) ?_ ?_))) <;> (first | omega | (simp <;> omega))))
 have hz4 : w.heap.size + 1 ≤ w4.heap.size := by omega
 clear hb_w4
 clear aA aD aE aG
 have H4 := hQ0 (show IsC w4 (.agg #[.bool s4, .slice A4 n4 c4]) (Z) from hv4)
 clear hv4
 go_wp2_with fail
 refine bodyPost_ret (v := .agg #[.bool s4, .slice A4 n4 c4]) (by simp only [results, Tryz.results42]; go_simp) rfl ⟨?_, ?_⟩
 · have hB := HB4.out; ((with_reducible (repeat (first | exact bR _ _ | apply bS | apply bA | apply bD | refine bT ?_ (by assumption) ?_ | refine bO (by assumption) ?_ ?_))) <;> (first | omega | (simp <;> omega)))
 · exact ⟨_, rfl, by ((with_reducible (repeat (first | exact H4.out | refine IsC.al ?_ _ | apply IsC.st1))) <;> (first | (with_reducible assumption) | (intro _ e; cases e; done) | (go_simp; first | done | exact rfl)))⟩
theorem lowR_scale (k x y d : Int) (hk : 0 < k) (hd : 0 < d) : lowR (k * x) (k * y) (k * d) = lowR x y d := by
 have hp := lowG_pos x y d hd
 have e : (lowG (k * x) (k * y) (k * d) : Int) = k * (lowG x y d : Int) := by
  unfold lowG
  rw [Int.natAbs_mul, Int.natAbs_mul, Int.natAbs_mul, Nat.gcd_mul_left, Nat.gcd_mul_left, Int.natCast_mul, Int.natAbs_of_nonneg (Int.le_of_lt hk)]
 obtain ⟨h1, h2, h3⟩ := lowG_dvd x y d
 unfold lowR
 rw [e]
 have key : ∀ z : Int, (k * z).tdiv (k * (lowG x y d : Int)) = z.tdiv (lowG x y d : Int) := fun z => Int.mul_tdiv_mul_of_pos _ _ hk
 rw [key, key, key]
theorem sumR_lens {a b : Int × Int × Int} (ha : Lens a) (hb : Lens b) (hd : 0 < a.2.2 * b.2.2) : 0 < (sumR a b).2.2 ∧ (canN (sumR a b).1.natAbs).length ≤ 30 ∧ (canN (sumR a b).2.1.natAbs).length ≤ 30 ∧ (canN (sumR a b).2.2.natAbs).length ≤ 30 := by
 obtain ⟨h1, h2, h3⟩ := ha
 obtain ⟨g1, g2, g3⟩ := hb
 exact lowR_bd (n := 30) hd (len_up (len_add (len_mul h1 g3) (len_mul g1 h3)) (by omega)) (len_up (len_add (len_mul h2 g3) (len_mul g2 h3)) (by omega)) (len_up (len_mul h3 g3) (by omega))
set_option maxRecDepth 100000 in
set_option maxHeartbeats 8000000 in
theorem rone_any (v u n k d rest grip : Int) (den : Value) (w : World) (hs : SmX v u n d k rest grip) (hden : IsC w den (16 * d)) :
  Calls Tryz.prog 43 #[.int .i64 v, .int .i64 u, .int .i64 n, .int .i64 k, den, .int .i64 d, .int .i64 rest, .int .i64 grip] w (ZOut (statX v u n d k rest grip) w) := by
 obtain ⟨⟨p1, p2⟩, ⟨p3, p4⟩, p5, p6⟩ := hs.parts
 have hlen := hs.len
 obtain ⟨⟨v1, v2⟩, ⟨u1, u2⟩, ⟨n1, n2⟩, ⟨m1, m2⟩, ⟨c1, c2⟩, ⟨r1, r2⟩, ⟨e1, e2⟩⟩ := hs
 have k1 := fun w => of_any v w (by omega) (by omega)
 have k2 := fun x y w h1 h2 => times_any 10 x y v (16 * d) w h1 h2 (by omega)
 have k3 := fun w => rscaled_any (16 + rest - grip) k w (by omega) (by omega)
 have k4 := fun w => of_any n w (by omega) (by omega)
 have k5 := fun x y w h1 h2 => times_any 10 x y ((16 + rest - grip) * k) n w h1 h2 (by omega)
 have k6 := fun w => rscaled_any grip u w (by omega) (by omega)
 have k7 := fun w => of_any d w (by omega) (by omega)
 have k8 := fun x y w h1 h2 => times_any 10 x y (grip * u) d w h1 h2 (by omega)
 have k9 := fun x y w h1 h2 => minus_any 10 x y (v * (16 * d)) ((16 + rest - grip) * k * n) w h1 h2 (by omega)
 have k10 := fun x y w h1 h2 => minus_any 10 x y (v * (16 * d) - (16 + rest - grip) * k * n) (grip * u * d) w h1 h2 (by omega)
 have b1 := mulB v (16 * d) 4194304 (16 * 17592186044416) (by omega) (by omega)
 have b2 := mulB (16 + rest - grip) k 31 17592186044416 (by omega) (by omega)
 have b3 := mulB ((16 + rest - grip) * k) n (31 * 17592186044416) 4194304 (by omega) (by omega)
 have b4 := mulB (grip * u) d 62914560 17592186044416 (by omega) (by omega)
 have es : v * (16 * d) - (16 + rest - grip) * k * n - grip * u * d = statX v u n d k rest grip := by unfold statX; grind
 have l1 := len_wd (z := v) (by omega) (by omega)
 have l2 := len_wd (z := 16 * d) (by omega) (by omega)
 have l3 : (canN (v * (16 * d)).natAbs).length ≤ 10 := canN_bd (B := 18446744073709551616 * 18446744073709551616) (by omega) (by omega) (by decide)
 have l4 : (canN ((16 + rest - grip) * k).natAbs).length ≤ 10 := canN_bd (B := 18446744073709551616 * 18446744073709551616) (by omega) (by omega) (by decide)
 have l5 := len_wd (z := n) (by omega) (by omega)
 have l6 : (canN ((16 + rest - grip) * k * n).natAbs).length ≤ 10 := canN_bd (B := 18446744073709551616 * 18446744073709551616) (by omega) (by omega) (by decide)
 have l7 := len_wd (z := grip * u) (by omega) (by omega)
 have l8 := len_wd (z := d) (by omega) (by omega)
 have l9 : (canN (grip * u * d).natAbs).length ≤ 10 := canN_bd (B := 18446744073709551616 * 18446744073709551616) (by omega) (by omega) (by decide)
 have l10 : (canN (v * (16 * d) - (16 + rest - grip) * k * n).natAbs).length ≤ 10 := canN_bd (B := 18446744073709551616 * 18446744073709551616) (by omega) (by omega) (by decide)
 rw [es] at k10
 generalize statX v u n d k rest grip = Z at *
 generalize v * (16 * d) - (16 + rest - grip) * k * n = Z4 at *
 generalize v * (16 * d) = Z1 at *
 generalize (16 + rest - grip) * k * n = Z2 at *
 generalize grip * u * d = Z3 at *
 generalize (16 + rest - grip) * k = Z5 at *
 generalize grip * u = Z6 at *
 have K1 := hQ0 k1
 have K2 := hQ0 k2
 have K3 := hQ0 k3
 have K4 := hQ0 k4
 have K5 := hQ0 k5
 have K6 := hQ0 k6
 have K7 := hQ0 k7
 have K8 := hQ0 k8
 have K9 := hQ0 k9
 have K10 := hQ0 k10
 have L1 := hQ0 l1
 have L2 := hQ0 l2
 have L3 := hQ0 l3
 have L4 := hQ0 l4
 have L5 := hQ0 l5
 have L6 := hQ0 l6
 have L7 := hQ0 l7
 have L8 := hQ0 l8
 have L9 := hQ0 l9
 have L10 := hQ0 l10
 obtain ⟨s0, A0, n0, c0, rfl⟩ := hden.val
 have H0 := hQ0 hden
 clear k1 k2 k3 k4 k5 k6 k7 k8 k9 k10 l1 l2 l3 l4 l5 l6 l7 l8 l9 l10 hlen p1 p2 p3 p4 p5 p6 b1 b2 b3 b4 es hden
 go_enter Tryz.func43, Tryz.ntmps43; (try simp only [List.append_eq, List.cons_append, List.nil_append])
 go_wp2_with fail
 (refine pin_wp (N := _) (Nat.le_refl _) (fun w2 hb_w2 hz_w2 => ?_); (try simp at hz_w2); (with_reducible apply cal2 (b := w.heap.size) hb_w2); (focus (go_simp; try exact ⟨rfl, rfl⟩)); intro dL aX bI dV; (with_reducible apply cal2 (b := w.heap.size + 1) hb_w2); (focus (go_simp; try exact ⟨rfl, rfl⟩)); intro dJ aL eR aY); refine wp_q (fun Q_ HQ_ => ?_); refine wp_region_floatQ w2.heap.size 5 [5] (Nat.le_refl _) (fun _ => True) trivial Cl.tt (by kernel_rfl) (by kernel_rfl) ?_
 replace H0 := hQ0 (IsC.below (v := .agg #[.bool s0, .slice A0 n0 c0]) (z := (16 * d)) (by ((with_reducible (repeat (first | exact H0.out | refine IsC.al ?_ _ | apply IsC.st1))) <;> (first | (with_reducible assumption) | (intro _ e; cases e; done) | (go_simp; first | done | exact rfl)))) hb_w2)
 have HB2 := hQ0 (show Below w.heap.size w w2 by ((with_reducible (repeat (first | exact bR _ _ | apply bS | apply bA | apply bD | refine bT ?_ (by assumption) ?_ | refine bO (by assumption) ?_ ?_))) <;> (first | omega | (simp <;> omega))))
 have hz2 : w.heap.size + 1 + 1 ≤ w2.heap.size := by omega
 clear hb_w2
 skip
 refine wpQI_start [0] ?_; (iterate 1 (first | (apply wpQI_step (zA rfl) (by kernel_rfl) (by exact rfl); (focus (intro W' hS; have hcS := hS.cells; go_simp; (iterate 2 (first | done | exact rfl | exact bB _ | go_simp)))); intro K hK; go_simp; (try go_bits); refine hK _ ?_; clear hK K))); refine wpQI_nil ?_
 refine wpQI_start [2] ?_; (iterate 1 (first | (apply wpQI_step (zA rfl) (by kernel_rfl) (by exact rfl); (focus (intro W' hS; have hcS := hS.cells; go_simp; (iterate 2 (first | done | exact rfl | exact bB _ | go_simp)))); intro K hK; go_simp; (try go_bits); refine hK _ ?_; clear hK K))); refine wpQI_nil ?_
 apply wpQ_call (i := 1) (zA rfl) (by kernel_rfl) (by exact rfl); intro W hF hS; have hcS := hS.1.cells; go_simp; (go_at_call 44; refine (K1.out _).mono ?_; rintro e w3 ⟨hb_w3, v3, rfl, hv3⟩; refine XPost.mk _ (fun W => IsC W v3 (v)) hb_w3 (hv3) (IsC.cl _ _) ?_); clear hb_w3 hcS hS hF
 intro K hK; go_simp; (try go_bits); refine hK _ ?_; clear hK K
 obtain ⟨s3, A3, n3, c3, rfl⟩ := IsC.val hv3
 clear hv3
 apply wpQ_call (i := 3) (zA rfl) (by kernel_rfl) (by exact rfl); intro W hF hS; have hcS := hS.1.cells; go_simp; (go_at_call 40; refine (K2.out _ _ _ (hF.zl L1.out) ((H0.out.below hS.1.2).zl L2.out)).mono ?_; rintro e w4 ⟨hb_w4, v4, rfl, hv4⟩; refine XPost.mk _ (fun W => IsC W v4 (Z1)) hb_w4 (hv4) (IsC.cl _ _) ?_); clear hb_w4 hcS hS hF
 intro K hK; go_simp; (try go_bits); refine hK _ ?_; clear hK K
 obtain ⟨s4, A4, n4, c4, rfl⟩ := IsC.val hv4
 clear hv4
 apply wpQ_fresh (i := 4) LInv.std (zA rfl) (by kernel_rfl) (fun g => Value.pointer (some ⟨g, 0, none⟩)) (by exact rfl); (focus (intro W; go_simp; first | done | exact rfl | exact ⟨rfl, rfl⟩))
 intro g_r1_4 hN_r1_4 hG_r1_4 K hK
 go_simp; refine hK _ ?_; clear hK K
 have hne : w.heap.size ≠ g_r1_4 ∧ g_r1_4 ≠ w.heap.size := by have := hN_r1_4; omega
 have hne : w.heap.size + 1 ≠ g_r1_4 ∧ g_r1_4 ≠ w.heap.size + 1 := by have := hN_r1_4; omega
 refine wpQ_done (by kernel_rfl) ?_
 intro w5 hF_w5 hSG
 have hz_w5 := hSG.1.1
 have hb_w5 := hSG.1.2
 have hB_r1_4 := (hSG.2 _ (List.mem_cons_self ..)).2; simp only at hB_r1_4; have hl_r1_4 := (hSG.size (List.mem_cons_self ..)); simp only at hl_r1_4
 have aB := cell_of_row w5 g_r1_4 0 _ _ _ hB_r1_4; simp only [List.getElem?_toArray, List.getElem?_cons_zero] at aB
 have aA := cell_of_row w5 g_r1_4 1 _ _ _ hB_r1_4; simp only [List.getElem?_toArray, List.getElem?_cons_zero, List.getElem?_cons_succ] at aA
 have aK : (∀ o, w5.frozen? ⟨g_r1_4, o, none⟩ = false) := (fun o => frozen_of_row w5 g_r1_4 o _ _ hB_r1_4); have HH_r1_4 := hQ0 hB_r1_4; clear hB_r1_4
 clear hSG
 (with_reducible apply cel2 (b := w.heap.size) hb_w5); ((try simp) <;> omega); omega; (iterate 2 (focus (go_simp; try exact rfl))); (intro o; go_simp); intro eB aZ dK bP; (with_reducible apply cel2 (b := w.heap.size + 1) hb_w5); ((try simp) <;> omega); omega; (iterate 2 (focus (go_simp; try exact rfl))); (intro o; go_simp); intro eS eO dS aG
 (try simp only [List.filterMap_cons, List.filterMap_nil, List.getElem?_cons_succ, List.getElem?_cons_zero])
 clear H0
 have H3 := hQ0 (show IsC w5 (.agg #[.bool s3, .slice A3 n3 c3]) (v) from hF_w5.1)
 have H4 := hQ0 (show IsC w5 (.agg #[.bool s4, .slice A4 n4 c4]) (Z1) from hF_w5.2)
 have HB5 := hQ0 (HB2.out.trans (hb_w5.mono (by have := HB2.out.size; omega)))
 have hz5 : w.heap.size + 1 + 1 ≤ w5.heap.size := by omega
 have hn_r1_4 : w.heap.size + 1 + 1 ≤ g_r1_4 := by have := hN_r1_4; omega
 clear hF_w5 hb_w5 HH_r1_4 hG_r1_4 hN_r1_4
 clear dL aX bI dV dJ aL eR aY
 go_wp2_with fail
 refine HQ_.out _ _ _ ?_
 clear HQ_ Q_
 go_wp2_with fail
 (go_at_call 42; refine (K3.out _).mono ?_; rintro e w6 ⟨hb_w6, v6, rfl, hv6⟩; have hz_w6 := hb_w6.size; (try simp at hz_w6); (with_reducible apply cal2 (b := w.heap.size + 1) hb_w6); (focus (go_simp; try exact ⟨rfl, rfl⟩)); intro eG aC eE bF; (with_reducible apply cal2 (b := g_r1_4) hb_w6); (focus (go_simp; try exact ⟨rfl, rfl⟩)); intro eK aF bQ eT)
 obtain ⟨s6, A6, n6, c6, rfl⟩ := IsC.val hv6
 clear H3
 replace H4 := hQ0 (IsC.below (v := .agg #[.bool s4, .slice A4 n4 c4]) (z := Z1) (by ((with_reducible (repeat (first | exact H4.out | refine IsC.al ?_ _ | apply IsC.st1))) <;> (first | (with_reducible assumption) | (intro _ e; cases e; done) | (go_simp; first | done | exact rfl)))) hb_w6)
 have HB6 := hQ0 (show Below w.heap.size w w6 by have hB := HB5.out; ((with_reducible (repeat (first | exact bR _ _ | apply bS | apply bA | apply bD | refine bT ?_ (by assumption) ?_ | refine bO (by assumption) ?_ ?_))) <;> (first | omega | (simp <;> omega))))
 have hz6 : w.heap.size + 1 + 1 ≤ w6.heap.size := by omega
 clear hb_w6
 clear aB aA aK eB aZ dK bP eS eO dS aG
 have H6 := hQ0 (show IsC w6 (.agg #[.bool s6, .slice A6 n6 c6]) (Z5) from hv6)
 clear hv6
 go_wp2_with fail
 (go_at_call 44; refine (K4.out _).mono ?_; rintro e w7 ⟨hb_w7, v7, rfl, hv7⟩; have hz_w7 := hb_w7.size; (try simp at hz_w7); (with_reducible apply cal2 (b := w.heap.size + 1) hb_w7); (focus (go_simp; try exact ⟨rfl, rfl⟩)); intro bU dG aH bE; (with_reducible apply cal2 (b := g_r1_4) hb_w7); (focus (go_simp; try exact ⟨rfl, rfl⟩)); intro bY dN eF bG)
 obtain ⟨s7, A7, n7, c7, rfl⟩ := IsC.val hv7
 replace H4 := hQ0 (IsC.below (v := .agg #[.bool s4, .slice A4 n4 c4]) (z := Z1) (by ((with_reducible (repeat (first | exact H4.out | refine IsC.al ?_ _ | apply IsC.st1))) <;> (first | (with_reducible assumption) | (intro _ e; cases e; done) | (go_simp; first | done | exact rfl)))) hb_w7)
 replace H6 := hQ0 (IsC.below (v := .agg #[.bool s6, .slice A6 n6 c6]) (z := Z5) (by ((with_reducible (repeat (first | exact H6.out | refine IsC.al ?_ _ | apply IsC.st1))) <;> (first | (with_reducible assumption) | (intro _ e; cases e; done) | (go_simp; first | done | exact rfl)))) hb_w7)
 have HB7 := hQ0 (show Below w.heap.size w w7 by have hB := HB6.out; ((with_reducible (repeat (first | exact bR _ _ | apply bS | apply bA | apply bD | refine bT ?_ (by assumption) ?_ | refine bO (by assumption) ?_ ?_))) <;> (first | omega | (simp <;> omega))))
 have hz7 : w.heap.size + 1 + 1 ≤ w7.heap.size := by omega
 clear hb_w7
 clear eG aC eE bF eK aF bQ eT
 have H7 := hQ0 (show IsC w7 (.agg #[.bool s7, .slice A7 n7 c7]) (n) from hv7)
 clear hv7
 go_wp2_with fail
 (go_at_call 40; refine (K5.out _ _ _ ((show IsC _ (.agg #[.bool s6, .slice A6 n6 c6]) (Z5) by ((with_reducible (repeat (first | exact H6.out | refine IsC.al ?_ _ | apply IsC.st1))) <;> (first | (with_reducible assumption) | (intro _ e; cases e; done) | (go_simp; first | done | exact rfl)))).zl L4.out) ((show IsC _ (.agg #[.bool s7, .slice A7 n7 c7]) (n) by ((with_reducible (repeat (first | exact H7.out | refine IsC.al ?_ _ | apply IsC.st1))) <;> (first | (with_reducible assumption) | (intro _ e; cases e; done) | (go_simp; first | done | exact rfl)))).zl L5.out)).mono ?_; rintro e w8 ⟨hb_w8, v8, rfl, hv8⟩; have hz_w8 := hb_w8.size; (try simp at hz_w8); (with_reducible apply cal2 (b := w.heap.size + 1) hb_w8); (focus (go_simp; try exact ⟨rfl, rfl⟩)); intro dE eH bK dT; (with_reducible apply cal2 (b := g_r1_4) hb_w8); (focus (go_simp; try exact ⟨rfl, rfl⟩)); intro bH bL bW eU)
 obtain ⟨s8, A8, n8, c8, rfl⟩ := IsC.val hv8
 clear H6
 clear H7
 replace H4 := hQ0 (IsC.below (v := .agg #[.bool s4, .slice A4 n4 c4]) (z := Z1) (by ((with_reducible (repeat (first | exact H4.out | refine IsC.al ?_ _ | apply IsC.st1))) <;> (first | (with_reducible assumption) | (intro _ e; cases e; done) | (go_simp; first | done | exact rfl)))) hb_w8)
 have HB8 := hQ0 (show Below w.heap.size w w8 by have hB := HB7.out; ((with_reducible (repeat (first | exact bR _ _ | apply bS | apply bA | apply bD | refine bT ?_ (by assumption) ?_ | refine bO (by assumption) ?_ ?_))) <;> (first | omega | (simp <;> omega))))
 have hz8 : w.heap.size + 1 + 1 ≤ w8.heap.size := by omega
 clear hb_w8
 clear bU dG aH bE bY dN eF bG
 have H8 := hQ0 (show IsC w8 (.agg #[.bool s8, .slice A8 n8 c8]) (Z2) from hv8)
 clear hv8
 go_wp2_with fail
 (go_at_call 42; refine (K6.out _).mono ?_; rintro e w9 ⟨hb_w9, v9, rfl, hv9⟩; have hz_w9 := hb_w9.size; (try simp at hz_w9); (with_reducible apply cal2 (b := w.heap.size + 1) hb_w9); (focus (go_simp; try exact ⟨rfl, rfl⟩)); intro dZ aJ eA dP; (with_reducible apply cal2 (b := g_r1_4) hb_w9); (focus (go_simp; try exact ⟨rfl, rfl⟩)); intro bC dR aN dX; (with_reducible apply cal2 (b := w8.heap.size) hb_w9); (focus (go_simp; try exact ⟨rfl, rfl⟩)); intro dB eV bV eM)
 obtain ⟨s9, A9, n9, c9, rfl⟩ := IsC.val hv9
 replace H4 := hQ0 (IsC.below (v := .agg #[.bool s4, .slice A4 n4 c4]) (z := Z1) (by ((with_reducible (repeat (first | exact H4.out | refine IsC.al ?_ _ | apply IsC.st1))) <;> (first | (with_reducible assumption) | (intro _ e; cases e; done) | (go_simp; first | done | exact rfl)))) hb_w9)
 replace H8 := hQ0 (IsC.below (v := .agg #[.bool s8, .slice A8 n8 c8]) (z := Z2) (by ((with_reducible (repeat (first | exact H8.out | refine IsC.al ?_ _ | apply IsC.st1))) <;> (first | (with_reducible assumption) | (intro _ e; cases e; done) | (go_simp; first | done | exact rfl)))) hb_w9)
 have HB9 := hQ0 (show Below w.heap.size w w9 by have hB := HB8.out; ((with_reducible (repeat (first | exact bR _ _ | apply bS | apply bA | apply bD | refine bT ?_ (by assumption) ?_ | refine bO (by assumption) ?_ ?_))) <;> (first | omega | (simp <;> omega))))
 have hz9 : w.heap.size + 1 + 1 ≤ w9.heap.size := by omega
 clear hb_w9
 clear dE eH bK dT bH bL bW eU
 have H9 := hQ0 (show IsC w9 (.agg #[.bool s9, .slice A9 n9 c9]) (Z6) from hv9)
 clear hv9
 go_wp2_with fail
 (go_at_call 44; refine (K7.out _).mono ?_; rintro e w10 ⟨hb_w10, v10, rfl, hv10⟩; have hz_w10 := hb_w10.size; (try simp at hz_w10); (with_reducible apply cal2 (b := w.heap.size + 1) hb_w10); (focus (go_simp; try exact ⟨rfl, rfl⟩)); intro aU aE aM dH; (with_reducible apply cal2 (b := g_r1_4) hb_w10); (focus (go_simp; try exact ⟨rfl, rfl⟩)); intro dW aI dD dF; (with_reducible apply cal2 (b := w8.heap.size) hb_w10); (focus (go_simp; try exact ⟨rfl, rfl⟩)); intro eL eI aQ aP)
 obtain ⟨s10, A10, n10, c10, rfl⟩ := IsC.val hv10
 replace H4 := hQ0 (IsC.below (v := .agg #[.bool s4, .slice A4 n4 c4]) (z := Z1) (by ((with_reducible (repeat (first | exact H4.out | refine IsC.al ?_ _ | apply IsC.st1))) <;> (first | (with_reducible assumption) | (intro _ e; cases e; done) | (go_simp; first | done | exact rfl)))) hb_w10)
 replace H8 := hQ0 (IsC.below (v := .agg #[.bool s8, .slice A8 n8 c8]) (z := Z2) (by ((with_reducible (repeat (first | exact H8.out | refine IsC.al ?_ _ | apply IsC.st1))) <;> (first | (with_reducible assumption) | (intro _ e; cases e; done) | (go_simp; first | done | exact rfl)))) hb_w10)
 replace H9 := hQ0 (IsC.below (v := .agg #[.bool s9, .slice A9 n9 c9]) (z := Z6) (by ((with_reducible (repeat (first | exact H9.out | refine IsC.al ?_ _ | apply IsC.st1))) <;> (first | (with_reducible assumption) | (intro _ e; cases e; done) | (go_simp; first | done | exact rfl)))) hb_w10)
 have HB10 := hQ0 (show Below w.heap.size w w10 by have hB := HB9.out; ((with_reducible (repeat (first | exact bR _ _ | apply bS | apply bA | apply bD | refine bT ?_ (by assumption) ?_ | refine bO (by assumption) ?_ ?_))) <;> (first | omega | (simp <;> omega))))
 have hz10 : w.heap.size + 1 + 1 ≤ w10.heap.size := by omega
 clear hb_w10
 clear dZ aJ eA dP bC dR aN dX dB eV bV eM
 have H10 := hQ0 (show IsC w10 (.agg #[.bool s10, .slice A10 n10 c10]) (d) from hv10)
 clear hv10
 go_wp2_with fail
 (go_at_call 40; refine (K8.out _ _ _ ((show IsC _ (.agg #[.bool s9, .slice A9 n9 c9]) (Z6) by ((with_reducible (repeat (first | exact H9.out | refine IsC.al ?_ _ | apply IsC.st1))) <;> (first | (with_reducible assumption) | (intro _ e; cases e; done) | (go_simp; first | done | exact rfl)))).zl L7.out) ((show IsC _ (.agg #[.bool s10, .slice A10 n10 c10]) (d) by ((with_reducible (repeat (first | exact H10.out | refine IsC.al ?_ _ | apply IsC.st1))) <;> (first | (with_reducible assumption) | (intro _ e; cases e; done) | (go_simp; first | done | exact rfl)))).zl L8.out)).mono ?_; rintro e w11 ⟨hb_w11, v11, rfl, hv11⟩; have hz_w11 := hb_w11.size; (try simp at hz_w11); (with_reducible apply cal2 (b := w.heap.size + 1) hb_w11); (focus (go_simp; try exact ⟨rfl, rfl⟩)); intro dO aR dQ eW; (with_reducible apply cal2 (b := g_r1_4) hb_w11); (focus (go_simp; try exact ⟨rfl, rfl⟩)); intro bZ bX dY eN; (with_reducible apply cal2 (b := w8.heap.size) hb_w11); (focus (go_simp; try exact ⟨rfl, rfl⟩)); intro dU eQ dI bN)
 obtain ⟨s11, A11, n11, c11, rfl⟩ := IsC.val hv11
 clear H9
 clear H10
 replace H4 := hQ0 (IsC.below (v := .agg #[.bool s4, .slice A4 n4 c4]) (z := Z1) (by ((with_reducible (repeat (first | exact H4.out | refine IsC.al ?_ _ | apply IsC.st1))) <;> (first | (with_reducible assumption) | (intro _ e; cases e; done) | (go_simp; first | done | exact rfl)))) hb_w11)
 replace H8 := hQ0 (IsC.below (v := .agg #[.bool s8, .slice A8 n8 c8]) (z := Z2) (by ((with_reducible (repeat (first | exact H8.out | refine IsC.al ?_ _ | apply IsC.st1))) <;> (first | (with_reducible assumption) | (intro _ e; cases e; done) | (go_simp; first | done | exact rfl)))) hb_w11)
 have HB11 := hQ0 (show Below w.heap.size w w11 by have hB := HB10.out; ((with_reducible (repeat (first | exact bR _ _ | apply bS | apply bA | apply bD | refine bT ?_ (by assumption) ?_ | refine bO (by assumption) ?_ ?_))) <;> (first | omega | (simp <;> omega))))
 have hz11 : w.heap.size + 1 + 1 ≤ w11.heap.size := by omega
 clear hb_w11
 clear aU aE aM dH dW aI dD dF eL eI aQ aP
 have H11 := hQ0 (show IsC w11 (.agg #[.bool s11, .slice A11 n11 c11]) (Z3) from hv11)
 clear hv11
 go_wp2_with fail
 (refine pin_wp (N := _) (Nat.le_refl _) (fun w12 hb_w12 hz_w12 => ?_); (try simp at hz_w12); (with_reducible apply cal2 (b := w.heap.size + 1) hb_w12); (focus (go_simp; try exact ⟨rfl, rfl⟩)); intro eP eC aV aS; (with_reducible apply cal2 (b := g_r1_4) hb_w12); (focus (go_simp; try exact ⟨rfl, rfl⟩)); intro bJ dA dC eJ; (with_reducible apply cal2 (b := w8.heap.size) hb_w12); (focus (go_simp; try exact ⟨rfl, rfl⟩)); intro aW dM bM aO; (with_reducible apply cal2 (b := w11.heap.size) hb_w12); (focus (go_simp; try exact ⟨rfl, rfl⟩)); intro aD eX eD aT); refine wp_q (fun Q_ HQ_ => ?_); refine wp_region_floatQ w12.heap.size 5 [5] (Nat.le_refl _) (fun _ => True) trivial Cl.tt (by kernel_rfl) (by kernel_rfl) ?_
 replace H4 := hQ0 (IsC.below (v := .agg #[.bool s4, .slice A4 n4 c4]) (z := Z1) (by ((with_reducible (repeat (first | exact H4.out | refine IsC.al ?_ _ | apply IsC.st1))) <;> (first | (with_reducible assumption) | (intro _ e; cases e; done) | (go_simp; first | done | exact rfl)))) hb_w12)
 replace H8 := hQ0 (IsC.below (v := .agg #[.bool s8, .slice A8 n8 c8]) (z := Z2) (by ((with_reducible (repeat (first | exact H8.out | refine IsC.al ?_ _ | apply IsC.st1))) <;> (first | (with_reducible assumption) | (intro _ e; cases e; done) | (go_simp; first | done | exact rfl)))) hb_w12)
 replace H11 := hQ0 (IsC.below (v := .agg #[.bool s11, .slice A11 n11 c11]) (z := Z3) (by ((with_reducible (repeat (first | exact H11.out | refine IsC.al ?_ _ | apply IsC.st1))) <;> (first | (with_reducible assumption) | (intro _ e; cases e; done) | (go_simp; first | done | exact rfl)))) hb_w12)
 have HB12 := hQ0 (show Below w.heap.size w w12 by have hB := HB11.out; ((with_reducible (repeat (first | exact bR _ _ | apply bS | apply bA | apply bD | refine bT ?_ (by assumption) ?_ | refine bO (by assumption) ?_ ?_))) <;> (first | omega | (simp <;> omega))))
 have hz12 : w.heap.size + 1 + 1 ≤ w12.heap.size := by omega
 clear hb_w12
 clear dO aR dQ eW bZ bX dY eN dU eQ dI bN
 refine wpQI_start [0, 1] ?_; (iterate 2 (first | (apply wpQI_step (zA rfl) (by kernel_rfl) (by exact rfl); (focus (intro W' hS; have hcS := hS.cells; go_simp; (iterate 2 (first | done | exact rfl | exact bB _ | go_simp)))); intro K hK; go_simp; (try go_bits); refine hK _ ?_; clear hK K))); refine wpQI_nil ?_
 refine wpQI_start [3] ?_; (iterate 1 (first | (apply wpQI_step (zA rfl) (by kernel_rfl) (by exact rfl); (focus (intro W' hS; have hcS := hS.cells; go_simp; (iterate 2 (first | done | exact rfl | exact bB _ | go_simp)))); intro K hK; go_simp; (try go_bits); refine hK _ ?_; clear hK K))); refine wpQI_nil ?_
 apply wpQ_call (i := 2) (zA rfl) (by kernel_rfl) (by exact rfl); intro W hF hS; have hcS := hS.1.cells; go_simp; (go_at_call 76; refine (K9.out _ _ _ ((H4.out.below hS.1.2).zl L3.out) ((H8.out.below hS.1.2).zl L6.out)).mono ?_; rintro e w13 ⟨hb_w13, v13, rfl, hv13⟩; refine XPost.mk _ (fun W => IsC W v13 (Z4)) hb_w13 (hv13) (IsC.cl _ _) ?_); clear hb_w13 hcS hS hF
 intro K hK; go_simp; (try go_bits); refine hK _ ?_; clear hK K
 obtain ⟨s13, A13, n13, c13, rfl⟩ := IsC.val hv13
 clear hv13
 apply wpQ_call (i := 4) (zA rfl) (by kernel_rfl) (by exact rfl); intro W hF hS; have hcS := hS.1.cells; go_simp; (go_at_call 76; refine (K10.out _ _ _ (hF.zl L10.out) ((H11.out.below hS.1.2).zl L9.out)).mono ?_; rintro e w14 ⟨hb_w14, v14, rfl, hv14⟩; refine XPost.mk _ (fun W => IsC W v14 (Z)) hb_w14 (hv14) (IsC.cl _ _) ?_); clear hb_w14 hcS hS hF
 intro K hK; go_simp; (try go_bits); refine hK _ ?_; clear hK K
 obtain ⟨s14, A14, n14, c14, rfl⟩ := IsC.val hv14
 clear hv14
 refine wpQ_done (by kernel_rfl) ?_
 intro w15 hF_w15 hSG
 have hz_w15 := hSG.1.1
 have hb_w15 := hSG.1.2
 clear hSG
 (with_reducible apply cel2 (b := w.heap.size + 1) hb_w15); ((try simp) <;> omega); omega; (iterate 2 (focus (go_simp; try exact rfl))); (intro o; go_simp); intro fC fK fH eY; (with_reducible apply cel2 (b := g_r1_4) hb_w15); ((try simp) <;> omega); omega; (iterate 2 (focus (go_simp; try exact rfl))); (intro o; go_simp); intro fG fI fM fL; (with_reducible apply cel2 (b := w8.heap.size) hb_w15); ((try simp) <;> omega); omega; (iterate 2 (focus (go_simp; try exact rfl))); (intro o; go_simp); intro fD eZ fB fJ; (with_reducible apply cel2 (b := w11.heap.size) hb_w15); ((try simp) <;> omega); omega; (iterate 2 (focus (go_simp; try exact rfl))); (intro o; go_simp); intro fE fN fF fA
 (try simp only [List.filterMap_cons, List.filterMap_nil, List.getElem?_cons_succ, List.getElem?_cons_zero])
 clear H4
 clear H8
 clear H11
 have H13 := hQ0 (show IsC w15 (.agg #[.bool s13, .slice A13 n13 c13]) (Z4) from hF_w15.1)
 have H14 := hQ0 (show IsC w15 (.agg #[.bool s14, .slice A14 n14 c14]) (Z) from hF_w15.2)
 have HB15 := hQ0 (HB12.out.trans (hb_w15.mono (by have := HB12.out.size; omega)))
 have hz15 : w.heap.size + 1 + 1 ≤ w15.heap.size := by omega
 clear hF_w15 hb_w15
 clear eP eC aV aS bJ dA dC eJ aW dM bM aO aD eX eD aT
 go_wp2_with fail
 refine HQ_.out _ _ _ ?_
 clear HQ_ Q_
 go_wp2_with fail
 refine bodyPost_ret (v := .agg #[.bool s14, .slice A14 n14 c14]) (by simp only [results, Tryz.results43]; go_simp) rfl ⟨?_, ?_⟩
 · have hB := HB15.out; ((with_reducible (repeat (first | exact bR _ _ | apply bS | apply bA | apply bD | refine bT ?_ (by assumption) ?_ | refine bO (by assumption) ?_ ?_))) <;> (first | omega | (simp <;> omega)))
 · exact ⟨_, rfl, (by ((with_reducible (repeat (first | exact H14.out | refine IsC.al ?_ _ | apply IsC.st1))) <;> (first | (with_reducible assumption) | (intro _ e; cases e; done) | (go_simp; first | done | exact rfl))))⟩
set_option maxRecDepth 100000 in
set_option maxHeartbeats 20000000 in
theorem rstatic_on (v1 v2 w1 w2 n1 n2 rest grip : Int) (w : World) (h : permB v1 v2 w1 w2 n1 n2 = true) (hr : sixB rest = true) (hg : sixB grip = true) (ha : apprB v1 v2 w1 w2 n1 n2 = true) :
  Calls Tryz.prog 15 #[.agg #[.int .i64 v1, .int .i64 v2], .agg #[.int .i64 w1, .int .i64 w2], .agg #[.int .i64 n1, .int .i64 n2], .int .i64 rest, .int .i64 grip] w (TOut (lowR (statX v1 (v1 - w1) n1 (n1 * n1 + n2 * n2) ((v1 - w1) * n1 + (v2 - w2) * n2) rest grip) (statX v2 (v2 - w2) n2 (n1 * n1 + n2 * n2) ((v1 - w1) * n1 + (v2 - w2) * n2) rest grip) (16 * (n1 * n1 + n2 * n2))) w) := by
 obtain ⟨bv, bw, bn⟩ := perm_bd h
 obtain ⟨e1, e2, e3⟩ := perm_vals h
 obtain ⟨⟨p1, p2⟩, p3, p4⟩ := perm_prod h
 obtain ⟨_, _, q3⟩ := appr_bd ha
 have t1 := sm1 h hr hg
 have t2 := sm2 h hr hg
 have k1 := fun w => rspeed_any v1 v2 w
 have k2 := fun w => rspeed_any w1 w2 w
 have k3 := fun w => rdirection_any n1 n2 w
 have k4 := fun w => rpart_any rest w
 have k5 := fun w => rpart_any grip w
 have hp := h
 unfold permB at hp
 simp only [Bool.and_eq_true] at hp
 rw [hp.1.1] at k1
 rw [hp.1.2] at k2
 rw [hp.2] at k3
 rw [hr] at k4
 rw [hg] at k5
 have k6 := fun w => rapproaches_any v1 v2 w1 w2 n1 n2 w
 have k7 := fun w => rsub_any v1 v2 w1 w2 w
 have k8 := fun w => rdot_any (v1 - w1) (v2 - w2) n1 n2 w
 have k9 := fun w => rdot_any n1 n2 n1 n2 w
 rw [ha] at k6
 rw [e1] at k7
 rw [e2] at k8
 rw [e3] at k9
 generalize (v1 - w1) * n1 + (v2 - w2) * n2 = C at *
 generalize n1 * n1 + n2 * n2 = M at *
 have k10 := fun w => rscaled_any 16 M w (by omega) (by omega)
 have k11 := fun dv w hd => rone_any v1 (v1 - w1) n1 C M rest grip dv w t1 hd
 have k12 := fun dv w hd => rone_any v2 (v2 - w2) n2 C M rest grip dv w t2 hd
 have l1 := t1.len
 have l2 := t2.len
 have l3 := len_wd (z := 16 * M) (by omega) (by omega)
 generalize statX v1 (v1 - w1) n1 M C rest grip = X at *
 generalize statX v2 (v2 - w2) n2 M C rest grip = Y at *
 have k13 := fun v w hv => rlowest_any X Y (16 * M) v w hv (by omega) (by omega) (by omega) (by omega)
 unfold TOut lowR
 generalize X.tdiv (lowG X Y (16 * M)) = RX at *
 generalize Y.tdiv (lowG X Y (16 * M)) = RY at *
 generalize (16 * M).tdiv (lowG X Y (16 * M)) = RD at *
 obtain ⟨bv1, bv2, bv3, bv4⟩ := bv
 have K1 := hQ0 k1
 have K2 := hQ0 k2
 have K3 := hQ0 k3
 have K4 := hQ0 k4
 have K5 := hQ0 k5
 have K6 := hQ0 k6
 have K7 := hQ0 k7
 have K8 := hQ0 k8
 have K9 := hQ0 k9
 have K10 := hQ0 k10
 have K11 := hQ0 k11
 have K12 := hQ0 k12
 have K13 := hQ0 k13
 clear k1 k2 k3 k4 k5 k6 k7 k8 k9 k10 k11 k12 k13 h hr hg ha e1 e2 e3 t1 t2 l1 l2 l3 hp
 simp only
 go_enter Tryz.func15, Tryz.ntmps15; (try simp only [List.append_eq, List.cons_append, List.nil_append])
 go_wp2_with fail
 (go_at_call 34; refine (K1.out _).mono ?_; rintro e w2 ⟨rfl, hb_w2⟩; have hz_w2 := hb_w2.size; (try simp at hz_w2); (with_reducible apply cal2 (b := w.heap.size) hb_w2); (focus (go_simp; try exact ⟨rfl, rfl⟩)); intro gY dD eG iV; (with_reducible apply cal2 (b := w.heap.size + 1) hb_w2); (focus (go_simp; try exact ⟨rfl, rfl⟩)); intro gK aQ kT dH; (with_reducible apply cal2 (b := w.heap.size + 1 + 1) hb_w2); (focus (go_simp; try exact ⟨rfl, rfl⟩)); intro eA jT jK iB; (with_reducible apply cal6 (b := w.heap.size + 1 + 1 + 1) hb_w2); (focus (go_simp; try exact ⟨rfl, rfl, rfl, rfl, rfl, rfl⟩)); intro kO bF aG iF gT bH fQ fZ)
 have HB2 := hQ0 (show Below w.heap.size w w2 by ((with_reducible (repeat (first | exact bR _ _ | apply bS | apply bA | apply bD | refine bT ?_ (by assumption) ?_ | refine bO (by assumption) ?_ ?_))) <;> (first | omega | (simp <;> omega))))
 have hz2 : w.heap.size + 1 + 1 + 1 + 1 ≤ w2.heap.size := by omega
 clear hb_w2
 skip
 go_wp2_with fail
 (go_at_call 34; refine (K2.out _).mono ?_; rintro e w3 ⟨rfl, hb_w3⟩; have hz_w3 := hb_w3.size; (try simp at hz_w3); (with_reducible apply cal2 (b := w.heap.size) hb_w3); (focus (go_simp; try exact ⟨rfl, rfl⟩)); intro eU iI dV iA; (with_reducible apply cal2 (b := w.heap.size + 1) hb_w3); (focus (go_simp; try exact ⟨rfl, rfl⟩)); intro aN gU kB dW; (with_reducible apply cal2 (b := w.heap.size + 1 + 1) hb_w3); (focus (go_simp; try exact ⟨rfl, rfl⟩)); intro kD dF fP lA; (with_reducible apply cal6 (b := w.heap.size + 1 + 1 + 1) hb_w3); (focus (go_simp; try exact ⟨rfl, rfl, rfl, rfl, rfl, rfl⟩)); intro dJ eK aV jD kK iU jX eV)
 have HB3 := hQ0 (show Below w.heap.size w w3 by have hB := HB2.out; ((with_reducible (repeat (first | exact bR _ _ | apply bS | apply bA | apply bD | refine bT ?_ (by assumption) ?_ | refine bO (by assumption) ?_ ?_))) <;> (first | omega | (simp <;> omega))))
 have hz3 : w.heap.size + 1 + 1 + 1 + 1 ≤ w3.heap.size := by omega
 clear hb_w3
 clear gY dD eG iV gK aQ kT dH eA jT jK iB kO bF aG iF gT bH fQ fZ
 go_wp2_with fail
 (go_at_call 35; refine (K3.out _).mono ?_; rintro e w4 ⟨rfl, hb_w4⟩; have hz_w4 := hb_w4.size; (try simp at hz_w4); (with_reducible apply cal2 (b := w.heap.size) hb_w4); (focus (go_simp; try exact ⟨rfl, rfl⟩)); intro iG aH lC jF; (with_reducible apply cal2 (b := w.heap.size + 1) hb_w4); (focus (go_simp; try exact ⟨rfl, rfl⟩)); intro eL aU kY kX; (with_reducible apply cal2 (b := w.heap.size + 1 + 1) hb_w4); (focus (go_simp; try exact ⟨rfl, rfl⟩)); intro bC gO gQ dO; (with_reducible apply cal6 (b := w.heap.size + 1 + 1 + 1) hb_w4); (focus (go_simp; try exact ⟨rfl, rfl, rfl, rfl, rfl, rfl⟩)); intro gM gV iW eW aP eQ fK jA)
 have HB4 := hQ0 (show Below w.heap.size w w4 by have hB := HB3.out; ((with_reducible (repeat (first | exact bR _ _ | apply bS | apply bA | apply bD | refine bT ?_ (by assumption) ?_ | refine bO (by assumption) ?_ ?_))) <;> (first | omega | (simp <;> omega))))
 have hz4 : w.heap.size + 1 + 1 + 1 + 1 ≤ w4.heap.size := by omega
 clear hb_w4
 clear eU iI dV iA aN gU kB dW kD dF fP lA dJ eK aV jD kK iU jX eV
 go_wp2_with fail
 (go_at_call 41; refine (K4.out _).mono ?_; rintro e w5 ⟨rfl, hb_w5⟩; have hz_w5 := hb_w5.size; (try simp at hz_w5); (with_reducible apply cal2 (b := w.heap.size) hb_w5); (focus (go_simp; try exact ⟨rfl, rfl⟩)); intro jJ dI gW eZ; (with_reducible apply cal2 (b := w.heap.size + 1) hb_w5); (focus (go_simp; try exact ⟨rfl, rfl⟩)); intro lD kQ iO aI; (with_reducible apply cal2 (b := w.heap.size + 1 + 1) hb_w5); (focus (go_simp; try exact ⟨rfl, rfl⟩)); intro iZ dS dU jV; (with_reducible apply cal6 (b := w.heap.size + 1 + 1 + 1) hb_w5); (focus (go_simp; try exact ⟨rfl, rfl, rfl, rfl, rfl, rfl⟩)); intro eN gX kE fG dG kP kI aS)
 have HB5 := hQ0 (show Below w.heap.size w w5 by have hB := HB4.out; ((with_reducible (repeat (first | exact bR _ _ | apply bS | apply bA | apply bD | refine bT ?_ (by assumption) ?_ | refine bO (by assumption) ?_ ?_))) <;> (first | omega | (simp <;> omega))))
 have hz5 : w.heap.size + 1 + 1 + 1 + 1 ≤ w5.heap.size := by omega
 clear hb_w5
 clear iG aH lC jF eL aU kY kX bC gO gQ dO gM gV iW eW aP eQ fK jA
 go_wp2_with fail
 (go_at_call 41; refine (K5.out _).mono ?_; rintro e w6 ⟨rfl, hb_w6⟩; have hz_w6 := hb_w6.size; (try simp at hz_w6); (with_reducible apply cal2 (b := w.heap.size) hb_w6); (focus (go_simp; try exact ⟨rfl, rfl⟩)); intro jY aB jU dX; (with_reducible apply cal2 (b := w.heap.size + 1) hb_w6); (focus (go_simp; try exact ⟨rfl, rfl⟩)); intro kG aF fA lE; (with_reducible apply cal2 (b := w.heap.size + 1 + 1) hb_w6); (focus (go_simp; try exact ⟨rfl, rfl⟩)); intro gN bI fN bZ; (with_reducible apply cal6 (b := w.heap.size + 1 + 1 + 1) hb_w6); (focus (go_simp; try exact ⟨rfl, rfl, rfl, rfl, rfl, rfl⟩)); intro kH jN aC kL eX dL kU aJ)
 have HB6 := hQ0 (show Below w.heap.size w w6 by have hB := HB5.out; ((with_reducible (repeat (first | exact bR _ _ | apply bS | apply bA | apply bD | refine bT ?_ (by assumption) ?_ | refine bO (by assumption) ?_ ?_))) <;> (first | omega | (simp <;> omega))))
 have hz6 : w.heap.size + 1 + 1 + 1 + 1 ≤ w6.heap.size := by omega
 clear hb_w6
 clear jJ dI gW eZ lD kQ iO aI iZ dS dU jV eN gX kE fG dG kP kI aS
 go_wp2_with fail
 (go_at_call 13; refine (K6.out _).mono ?_; rintro e w7 ⟨rfl, hb_w7⟩; have hz_w7 := hb_w7.size; (try simp at hz_w7); (with_reducible apply cal2 (b := w.heap.size) hb_w7); (focus (go_simp; try exact ⟨rfl, rfl⟩)); intro fB gE aK dT; (with_reducible apply cal2 (b := w.heap.size + 1) hb_w7); (focus (go_simp; try exact ⟨rfl, rfl⟩)); intro fT iC jW dZ; (with_reducible apply cal2 (b := w.heap.size + 1 + 1) hb_w7); (focus (go_simp; try exact ⟨rfl, rfl⟩)); intro bQ fW aL bL; (with_reducible apply cal6 (b := w.heap.size + 1 + 1 + 1) hb_w7); (focus (go_simp; try exact ⟨rfl, rfl, rfl, rfl, rfl, rfl⟩)); intro iY fJ dB jO fC jM eD aW)
 have HB7 := hQ0 (show Below w.heap.size w w7 by have hB := HB6.out; ((with_reducible (repeat (first | exact bR _ _ | apply bS | apply bA | apply bD | refine bT ?_ (by assumption) ?_ | refine bO (by assumption) ?_ ?_))) <;> (first | omega | (simp <;> omega))))
 have hz7 : w.heap.size + 1 + 1 + 1 + 1 ≤ w7.heap.size := by omega
 clear hb_w7
 clear jY aB jU dX kG aF fA lE gN bI fN bZ kH jN aC kL eX dL kU aJ
 go_wp2_with fail
 (go_at_call 37; refine (K7.out _).mono ?_; rintro e w8 ⟨rfl, hb_w8⟩; have hz_w8 := hb_w8.size; (try simp at hz_w8); (with_reducible apply cal2 (b := w.heap.size) hb_w8); (focus (go_simp; try exact ⟨rfl, rfl⟩)); intro gC jZ eJ iP; (with_reducible apply cal2 (b := w.heap.size + 1 + 1) hb_w8); (focus (go_simp; try exact ⟨rfl, rfl⟩)); intro eC eM fE lF; (with_reducible apply cal6 (b := w.heap.size + 1 + 1 + 1) hb_w8); (focus (go_simp; try exact ⟨rfl, rfl, rfl, rfl, rfl, rfl⟩)); intro kV fI dA aX jP eE dM eI)
 have HB8 := hQ0 (show Below w.heap.size w w8 by have hB := HB7.out; ((with_reducible (repeat (first | exact bR _ _ | apply bS | apply bA | apply bD | refine bT ?_ (by assumption) ?_ | refine bO (by assumption) ?_ ?_))) <;> (first | omega | (simp <;> omega))))
 have hz8 : w.heap.size + 1 + 1 + 1 + 1 ≤ w8.heap.size := by omega
 clear hb_w8
 clear fB gE aK dT fT iC jW dZ bQ fW aL bL iY fJ dB jO fC jM eD aW
 go_wp2_with fail
 (refine pin_wp (N := _) (Nat.le_refl _) (fun w9 hb_w9 hz_w9 => ?_); (try simp at hz_w9); (with_reducible apply cal2 (b := w.heap.size) hb_w9); (focus (go_simp; try exact ⟨rfl, rfl⟩)); intro jG aO jH iL; (with_reducible apply cal2 (b := w.heap.size + 1 + 1) hb_w9); (focus (go_simp; try exact ⟨rfl, rfl⟩)); intro dN iN aT jB; (with_reducible apply cal6 (b := w.heap.size + 1 + 1 + 1) hb_w9); (focus (go_simp; try exact ⟨rfl, rfl, rfl, rfl, rfl, rfl⟩)); intro fX lG eB bV dK jC fD kM; (with_reducible apply cal2 (b := w8.heap.size) hb_w9); (focus (go_simp; try exact ⟨rfl, rfl⟩)); intro gG gF gA eS); refine wp_q (fun Q_ HQ_ => ?_); refine wp_region_floatQ w9.heap.size 8 [] (Nat.le_refl _) (fun _ => True) trivial Cl.tt (by kernel_rfl) (by kernel_rfl) ?_
 have HB9 := hQ0 (show Below w.heap.size w w9 by have hB := HB8.out; ((with_reducible (repeat (first | exact bR _ _ | apply bS | apply bA | apply bD | refine bT ?_ (by assumption) ?_ | refine bO (by assumption) ?_ ?_))) <;> (first | omega | (simp <;> omega))))
 have hz9 : w.heap.size + 1 + 1 + 1 + 1 ≤ w9.heap.size := by omega
 clear hb_w9
 clear gC jZ eJ iP eC eM fE lF kV fI dA aX jP eE dM eI
 refine wpQI_start [0, 1] ?_; (iterate 2 (first | (apply wpQI_step (zA rfl) (by kernel_rfl) (by exact rfl); (focus (intro W' hS; have hcS := hS.cells; go_simp; (iterate 2 (first | done | exact rfl | exact bB _ | go_simp)))); intro K hK; go_simp; (try go_bits); refine hK _ ?_; clear hK K))); refine wpQI_nil ?_
 refine wpQI_start [3, 4] ?_; (iterate 2 (first | (apply wpQI_step (zA rfl) (by kernel_rfl) (by exact rfl); (focus (intro W' hS; have hcS := hS.cells; go_simp; (iterate 2 (first | done | exact rfl | exact bB _ | go_simp)))); intro K hK; go_simp; (try go_bits); refine hK _ ?_; clear hK K))); refine wpQI_nil ?_
 refine wpQI_start [2] ?_; (iterate 1 (first | (apply wpQI_step (zA rfl) (by kernel_rfl) (by exact rfl); (focus (intro W' hS; have hcS := hS.cells; go_simp; (first | done | exact rfl | exact ⟨rfl, Below.refl _ _⟩ | (go_at_call 36; exact (K8.out _).mono (fun _ _ h => ⟨h.1, h.2⟩)) | (go_simp; first | done | exact rfl | exact ⟨rfl, Below.refl _ _⟩)))); intro K hK; go_simp; (try go_bits); refine hK _ ?_; clear hK K))); refine wpQI_nil ?_
 refine wpQI_start [5] ?_; (iterate 1 (first | (apply wpQI_step (zA rfl) (by kernel_rfl) (by exact rfl); (focus (intro W' hS; have hcS := hS.cells; go_simp; (first | done | exact rfl | exact ⟨rfl, Below.refl _ _⟩ | (go_at_call 36; exact (K9.out _).mono (fun _ _ h => ⟨h.1, h.2⟩)) | (go_simp; first | done | exact rfl | exact ⟨rfl, Below.refl _ _⟩)))); intro K hK; go_simp; (try go_bits); refine hK _ ?_; clear hK K))); refine wpQI_nil ?_
 refine wpQI_start [6, 7] ?_; (iterate 2 (first | (apply wpQI_step (zA rfl) (by kernel_rfl) (by exact rfl); (focus (intro W' hS; have hcS := hS.cells; go_simp; (iterate 2 (first | done | exact rfl | exact bB _ | go_simp)))); intro K hK; go_simp; (try go_bits); refine hK _ ?_; clear hK K))); refine wpQI_nil ?_
 refine wpQ_done (by kernel_rfl) ?_
 intro w10 hF_w10 hSG
 have hz_w10 := hSG.1.1
 have hb_w10 := hSG.1.2
 clear hSG
 (with_reducible apply cel2 (b := w.heap.size) hb_w10); ((try simp) <;> omega); omega; (iterate 2 (focus (go_simp; try exact rfl))); (intro o; go_simp); intro bN aE aR gH; (with_reducible apply cel2 (b := w.heap.size + 1 + 1) hb_w10); ((try simp) <;> omega); omega; (iterate 2 (focus (go_simp; try exact rfl))); (intro o; go_simp); intro iX aM gB gD; (with_reducible apply cel6 (b := w.heap.size + 1 + 1 + 1) hb_w10); ((try simp) <;> omega); omega; (iterate 6 (focus (go_simp; try exact rfl))); (intro o; go_simp); intro kJ kA bY iS iR iT bJ aZ; (with_reducible apply cel2 (b := w8.heap.size) hb_w10); ((try simp) <;> omega); omega; (iterate 2 (focus (go_simp; try exact rfl))); (intro o; go_simp); intro jE dC jQ fL
 (try simp only [List.filterMap_nil])
 have HB10 := hQ0 (HB9.out.trans (hb_w10.mono (by have := HB9.out.size; omega)))
 have hz10 : w.heap.size + 1 + 1 + 1 + 1 ≤ w10.heap.size := by omega
 clear hF_w10 hb_w10
 clear jG aO jH iL dN iN aT jB fX lG eB bV dK jC fD kM gG gF gA eS
 go_wp2_with fail
 refine HQ_.out _ _ _ ?_
 clear HQ_ Q_
 go_wp2_with fail
 (go_at_call 42; refine (K10.out _).mono ?_; rintro e w11 ⟨hb_w11, v11, rfl, hv11⟩; have hz_w11 := hb_w11.size; (try simp at hz_w11); (with_reducible apply cal2 (b := w.heap.size) hb_w11); (focus (go_simp; try exact ⟨rfl, rfl⟩)); intro iJ bK iM lH; (with_reducible apply cal2 (b := w.heap.size + 1 + 1) hb_w11); (focus (go_simp; try exact ⟨rfl, rfl⟩)); intro fU fO jI kN; (with_reducible apply cal6 (b := w.heap.size + 1 + 1 + 1) hb_w11); (focus (go_simp; try exact ⟨rfl, rfl, rfl, rfl, rfl, rfl⟩)); intro iQ kS bM aA aY fR gI eT; (with_reducible apply cal2 (b := w8.heap.size) hb_w11); (focus (go_simp; try exact ⟨rfl, rfl⟩)); intro bG dY fS eY)
 obtain ⟨s11, A11, n11, c11, rfl⟩ := IsC.val hv11
 have HB11 := hQ0 (show Below w.heap.size w w11 by have hB := HB10.out; ((with_reducible (repeat (first | exact bR _ _ | apply bS | apply bA | apply bD | refine bT ?_ (by assumption) ?_ | refine bO (by assumption) ?_ ?_))) <;> (first | omega | (simp <;> omega))))
 have hz11 : w.heap.size + 1 + 1 + 1 + 1 ≤ w11.heap.size := by omega
 clear hb_w11
 clear bN aE aR gH iX aM gB gD kJ kA bY iS iR iT bJ aZ jE dC jQ fL
 have H11 := hQ0 (show IsC w11 (.agg #[.bool s11, .slice A11 n11 c11]) ((16 * M)) from hv11)
 clear hv11
 go_wp2_with fail
 (go_at_call 43; refine (K11.out _ _ ((show IsC _ (.agg #[.bool s11, .slice A11 n11 c11]) ((16 * M)) by ((with_reducible (repeat (first | exact H11.out | refine IsC.al ?_ _ | apply IsC.st1))) <;> (first | (with_reducible assumption) | (intro _ e; cases e; done) | (go_simp; first | done | exact rfl)))))).mono ?_; rintro e w12 ⟨hb_w12, v12, rfl, hv12⟩; have hz_w12 := hb_w12.size; (try simp at hz_w12); (with_reducible apply cal2 (b := w.heap.size) hb_w12); (focus (go_simp; try exact ⟨rfl, rfl⟩)); intro kR jL bW bP; (with_reducible apply cal2 (b := w.heap.size + 1 + 1) hb_w12); (focus (go_simp; try exact ⟨rfl, rfl⟩)); intro eH fV fY kF; (with_reducible apply cal6 (b := w.heap.size + 1 + 1 + 1) hb_w12); (focus (go_simp; try exact ⟨rfl, rfl, rfl, rfl, rfl, rfl⟩)); intro dE gZ dR iE lB iK eR bE; (with_reducible apply cal2 (b := w8.heap.size) hb_w12); (focus (go_simp; try exact ⟨rfl, rfl⟩)); intro aD lI jR bU; (with_reducible apply cal2 (b := w11.heap.size) hb_w12); (focus (go_simp; try exact ⟨rfl, rfl⟩)); intro kZ eO eP iH)
 obtain ⟨s12, A12, n12, c12, rfl⟩ := IsC.val hv12
 replace H11 := hQ0 (IsC.below (v := .agg #[.bool s11, .slice A11 n11 c11]) (z := (16 * M)) (by ((with_reducible (repeat (first | exact H11.out | refine IsC.al ?_ _ | apply IsC.st1))) <;> (first | (with_reducible assumption) | (intro _ e; cases e; done) | (go_simp; first | done | exact rfl)))) hb_w12)
 have HB12 := hQ0 (show Below w.heap.size w w12 by have hB := HB11.out; ((with_reducible (repeat (first | exact bR _ _ | apply bS | apply bA | apply bD | refine bT ?_ (by assumption) ?_ | refine bO (by assumption) ?_ ?_))) <;> (first | omega | (simp <;> omega))))
 have hz12 : w.heap.size + 1 + 1 + 1 + 1 ≤ w12.heap.size := by omega
 clear hb_w12
 clear iJ bK iM lH fU fO jI kN iQ kS bM aA aY fR gI eT bG dY fS eY
 have H12 := hQ0 (show IsC w12 (.agg #[.bool s12, .slice A12 n12 c12]) (X) from hv12)
 clear hv12
 go_wp2_with fail
 (go_at_call 43; refine (K12.out _ _ ((show IsC _ (.agg #[.bool s11, .slice A11 n11 c11]) ((16 * M)) by ((with_reducible (repeat (first | exact H11.out | refine IsC.al ?_ _ | apply IsC.st1))) <;> (first | (with_reducible assumption) | (intro _ e; cases e; done) | (go_simp; first | done | exact rfl)))))).mono ?_; rintro e w13 ⟨hb_w13, v13, rfl, hv13⟩; have hz_w13 := hb_w13.size; (try simp at hz_w13); (with_reducible apply cal6 (b := w.heap.size + 1 + 1 + 1) hb_w13); (focus (go_simp; try exact ⟨rfl, rfl, rfl, rfl, rfl, rfl⟩)); intro dQ gS eF bX gP gR fM iD; (with_reducible apply cal2 (b := w11.heap.size) hb_w13); (focus (go_simp; try exact ⟨rfl, rfl⟩)); intro fH kW gL fF; (with_reducible apply cal2 (b := w12.heap.size) hb_w13); (focus (go_simp; try exact ⟨rfl, rfl⟩)); intro jS kC gJ dP)
 obtain ⟨s13, A13, n13, c13, rfl⟩ := IsC.val hv13
 replace H11 := hQ0 (IsC.below (v := .agg #[.bool s11, .slice A11 n11 c11]) (z := (16 * M)) (by ((with_reducible (repeat (first | exact H11.out | refine IsC.al ?_ _ | apply IsC.st1))) <;> (first | (with_reducible assumption) | (intro _ e; cases e; done) | (go_simp; first | done | exact rfl)))) hb_w13)
 replace H12 := hQ0 (IsC.below (v := .agg #[.bool s12, .slice A12 n12 c12]) (z := X) (by ((with_reducible (repeat (first | exact H12.out | refine IsC.al ?_ _ | apply IsC.st1))) <;> (first | (with_reducible assumption) | (intro _ e; cases e; done) | (go_simp; first | done | exact rfl)))) hb_w13)
 have HB13 := hQ0 (show Below w.heap.size w w13 by have hB := HB12.out; ((with_reducible (repeat (first | exact bR _ _ | apply bS | apply bA | apply bD | refine bT ?_ (by assumption) ?_ | refine bO (by assumption) ?_ ?_))) <;> (first | omega | (simp <;> omega))))
 have hz13 : w.heap.size + 1 + 1 + 1 + 1 ≤ w13.heap.size := by omega
 clear hb_w13
 clear kR jL bW bP eH fV fY kF dE gZ dR iE lB iK eR bE aD lI jR bU kZ eO eP iH
 have H13 := hQ0 (show IsC w13 (.agg #[.bool s13, .slice A13 n13 c13]) (Y) from hv13)
 clear hv13
 go_wp2_with fail
 (go_at_call 38; refine (K13.out _ _ (⟨_, _, _, _, _, _, _, _, _, _, _, _, rfl, (show IsC _ (.agg #[.bool s12, .slice A12 n12 c12]) (X) by ((with_reducible (repeat (first | exact H12.out | refine IsC.al ?_ _ | apply IsC.st1))) <;> (first | (with_reducible assumption) | (intro _ e; cases e; done) | (go_simp; first | done | exact rfl)))), (show IsC _ (.agg #[.bool s13, .slice A13 n13 c13]) (Y) by ((with_reducible (repeat (first | exact H13.out | refine IsC.al ?_ _ | apply IsC.st1))) <;> (first | (with_reducible assumption) | (intro _ e; cases e; done) | (go_simp; first | done | exact rfl)))), (show IsC _ (.agg #[.bool s11, .slice A11 n11 c11]) ((16 * M)) by ((with_reducible (repeat (first | exact H11.out | refine IsC.al ?_ _ | apply IsC.st1))) <;> (first | (with_reducible assumption) | (intro _ e; cases e; done) | (go_simp; first | done | exact rfl))))⟩)).mono ?_; rintro e w14 ⟨hb_w14, v14, rfl, hv14⟩; have hz_w14 := hb_w14.size; (try simp at hz_w14); (with_reducible apply cal6 (b := w.heap.size + 1 + 1 + 1) hb_w14); (focus (go_simp; try exact ⟨rfl, rfl, rfl, rfl, rfl, rfl⟩)); intro lL lK lQ lM lO lN lP lJ)
 obtain ⟨s14x, A14x, n14x, c14x, s14y, A14y, n14y, c14y, s14d, A14d, n14d, c14d, rfl⟩ := RAt.val hv14
 clear H11
 clear H12
 clear H13
 have HB14 := hQ0 (show Below w.heap.size w w14 by have hB := HB13.out; ((with_reducible (repeat (first | exact bR _ _ | apply bS | apply bA | apply bD | refine bT ?_ (by assumption) ?_ | refine bO (by assumption) ?_ ?_))) <;> (first | omega | (simp <;> omega))))
 have hz14 : w.heap.size + 1 + 1 + 1 + 1 ≤ w14.heap.size := by omega
 clear hb_w14
 clear dQ gS eF bX gP gR fM iD fH kW gL fF jS kC gJ dP
 have H14 := hQ0 (show RAt w14 (.agg #[.bool s14x, .slice A14x n14x c14x, .bool s14y, .slice A14y n14y c14y, .bool s14d, .slice A14d n14d c14d]) (RX) (RY) (RD) from hv14)
 clear hv14
 go_wp2_with fail
 refine bodyPost_ret (v := .agg #[.bool s14x, .slice A14x n14x c14x, .bool s14y, .slice A14y n14y c14y, .bool s14d, .slice A14d n14d c14d]) (by simp only [results, Tryz.results15]; go_simp) rfl ⟨?_, ?_⟩
 · have hB := HB14.out; ((with_reducible (repeat (first | exact bR _ _ | apply bS | apply bA | apply bD | refine bT ?_ (by assumption) ?_ | refine bO (by assumption) ?_ ?_))) <;> (first | omega | (simp <;> omega)))
 · exact ⟨_, rfl, (by ((with_reducible (repeat (first | exact H14.out | refine RAt.al ?_ _ | apply RAt.st1))) <;> (first | (with_reducible assumption) | (intro _ e; cases e; done) | (go_simp; first | done | exact rfl))))⟩
end Go.Proofs.YtgejdaincnclpaaGreat
