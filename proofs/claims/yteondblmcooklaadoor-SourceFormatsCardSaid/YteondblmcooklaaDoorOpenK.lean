/- A list that came in, opened: integers, keys, statements. -/
import Derived.Test.YteondblmcooklaaDoorOpen
import Derived.Test.YteondblmcooklaaDoorSrcM
namespace Go.Proofs.YteondblmcooklaaDoor
open Go Go.RowKit
set_option linter.unusedVariables false
theorem slice_open {α : Type} {w : World} {n : Nat} {t e : TypeId} {A : Option Addr} {len cap size : Nat} (hu : Tryd.prog.underlying t = some (.slice e)) (h : RowIs Tryd.prog w n t [.slice A len cap]) (hc : Tryd.prog.cellsOf e = size)
    (cells : α → List Value) (ok : α → Prop) (hpos : ∀ x, ∃ v r, cells x = v :: r) (hrow : ∀ m row, RowIs Tryd.prog w m e row → ∃ x, ok x ∧ row = cells x) :
    len ≤ maxLen ∧ ∃ l : List α, l.length = len ∧ (∀ x ∈ l, ok x) ∧ ∀ k x, l[k]? = some x → ∃ g o, A = some ⟨g, o, none⟩ ∧ g < w.heap.size ∧ ∀ j v, (cells x)[j]? = some v → w.cell? ⟨g, o + (k * size + j), none⟩ = some v := by
  have none0 : len = 0 → len ≤ maxLen ∧ ∃ l : List α, l.length = len ∧ (∀ x ∈ l, ok x) ∧ ∀ k x, l[k]? = some x → ∃ g o, A = some ⟨g, o, none⟩ ∧ g < w.heap.size ∧ ∀ j v, (cells x)[j]? = some v → w.cell? ⟨g, o + (k * size + j), none⟩ = some v := fun h0 => by
    subst h0
    exact ⟨by unfold maxLen; omega, [], rfl, by simp, fun k x h => by simp at h⟩
  rcases rowIs_slice hu h with h0 | ⟨a, len', cap', m, hcs, hlc, hcap, hrows⟩
  · simp only [List.cons.injEq, Value.slice.injEq, and_true] at h0
    exact none0 h0.2.1
  · simp only [List.cons.injEq, Value.slice.injEq, and_true] at hcs
    obtain ⟨rfl, rfl, rfl⟩ := hcs
    rcases Nat.eq_zero_or_pos len with h0 | h0
    · exact none0 h0
    · refine ⟨by omega, ?_⟩
      have hr : ∀ i, i < len → ∃ x : α, ok x ∧ ∀ j v, (cells x)[j]? = some v → w.cell? (a.add (i * size + j)) = some v := by
        intro i hi
        obtain ⟨row, hl, hc', hrw⟩ := hrows i hi
        obtain ⟨x, hx, rfl⟩ := hrow _ _ hrw
        rw [hc] at hc'
        exact ⟨x, hx, hc'⟩
      obtain ⟨x0, _, hx0⟩ := hr 0 h0
      obtain ⟨v0, r0, e0⟩ := hpos x0
      have hc0 := hx0 0 v0 (by rw [e0]; rfl)
      obtain ⟨g, o, spot⟩ := a
      have hsp : spot = none := by simpa [Addr.add] using World.cell?_spot hc0
      subst hsp
      have hg : g < w.heap.size := by
        have := World.block_lt_of_cell? w _ hc0
        simpa [Addr.add] using this
      clear hc0 hx0 e0
      have build : ∀ m, m ≤ len → ∃ l : List α, l.length = m ∧ (∀ k x, l[k]? = some x → ok x ∧ ∀ j v, (cells x)[j]? = some v → w.cell? ((⟨g, o, none⟩ : Addr).add (k * size + j)) = some v) := by
        intro m
        induction m with
        | zero => intro _; exact ⟨[], rfl, fun k x h => by simp at h⟩
        | succ m ih =>
          intro hm
          obtain ⟨l, hl, hp⟩ := ih (by omega)
          obtain ⟨x, hx⟩ := hr m (by omega)
          refine ⟨l ++ [x], by simp [hl], fun k y hk => ?_⟩
          rcases Nat.lt_or_ge k l.length with h | h
          · rw [List.getElem?_append_left h] at hk; exact hp k y hk
          · rw [List.getElem?_append_right h] at hk
            have hk0 : k = m := by
              have := (List.getElem?_eq_some_iff.1 hk).1
              simp at this; omega
            subst hk0
            rw [hl, Nat.sub_self] at hk
            simp only [List.getElem?_cons_zero, Option.some.injEq] at hk
            subst hk
            exact hx
      obtain ⟨l, hl, hp⟩ := build len (Nat.le_refl _)
      have hadd : ∀ j, (⟨g, o, none⟩ : Addr).add j = ⟨g, o + j, none⟩ := by intro j; unfold Addr.add; split <;> simp_all
      refine ⟨l, hl, fun x hx => ?_, fun k x hx => ⟨g, o, rfl, hg, fun j v hj => ?_⟩⟩
      · obtain ⟨k, hk⟩ := List.getElem?_of_mem hx
        exact (hp k x hk).1
      · have := (hp k x hx).2 j v hj; rwa [hadd] at this
theorem row_slice {w : World} {n : Nat} {t e : TypeId} {c : Value} (hu : Tryd.prog.underlying t = some (.slice e)) (h : RowIs Tryd.prog w n t [c]) : ∃ A len cap, c = .slice A len cap := by
  rcases rowIs_slice hu h with h0 | ⟨a, len, cap, m, hcs, _⟩
  · simp only [List.cons.injEq, and_true] at h0; exact ⟨_, _, _, h0⟩
  · simp only [List.cons.injEq, and_true] at hcs; exact ⟨_, _, _, hcs⟩
theorem cells_int : Tryd.prog.cellsOf 3 = 1 := by kernel_rfl
theorem cells_string : Tryd.prog.cellsOf 9 = 1 := by kernel_rfl
theorem cells_ints : Tryd.prog.cellsOf 37 = 1 := by kernel_rfl
theorem cells_keys : Tryd.prog.cellsOf 33 = 1 := by kernel_rfl
theorem cells_key : Tryd.prog.cellsOf 71 = 3 := by kernel_rfl
theorem cells_item : Tryd.prog.cellsOf 35 = 4 := by kernel_rfl
theorem len3 {α : Type} {l : List α} (h : l.length = 3) : ∃ a b c, l = [a, b, c] := by
  match l, h with
  | [a, b, c], _ => exact ⟨a, b, c, rfl⟩
def Bd (z : Int) : Prop := -9223372036854775808 ≤ z ∧ z ≤ 9223372036854775807
theorem ints_open {w : World} {n : Nat} {A : Option Addr} {len cap : Nat} (h : RowIs Tryd.prog w n 37 [.slice A len cap]) : len ≤ maxLen ∧ ∃ l : List Int, l.length = len ∧ IAt w A l ∧ ∀ x ∈ l, Bd x := by
  obtain ⟨h1, l, hl, hok, hp⟩ := slice_open Tryd.underlying37 h cells_int (fun x : Int => [Value.int .i64 x]) Bd (fun x => ⟨_, _, rfl⟩) (fun m row hr => by
    obtain ⟨x, hx, wx⟩ := rowIs_int Tryd.underlying3 hr
    exact ⟨x, wf_bd wx, hx⟩)
  refine ⟨h1, l, hl, fun k x hx => ?_, hok⟩
  obtain ⟨g, o, hA, hg, hc⟩ := hp k x hx
  exact ⟨g, o, hA, hg, by have := hc 0 _ rfl; simpa using this⟩
/-- A key that came in, and where its numbers lie. -/
structure KI where
  kv : KV
  B : Option Addr
  d : Nat
def KI.ok (w : World) (x : KI) : Prop := x.kv.key.size ≤ maxLen ∧ x.kv.vals.length ≤ maxLen ∧ IAt w x.B x.kv.vals ∧ ∀ z ∈ x.kv.vals, Bd z
theorem row_key {w : World} {n : Nat} {cs : List Value} (h : RowIs Tryd.prog w n 71 cs) : ∃ x : KI, x.ok w ∧ cs = cellsOfK x.kv x.B x.d := by
  obtain ⟨hl, m, hf⟩ := rowIs_struct Tryd.underlying71 h
  rw [cells_key] at hl
  obtain ⟨c0, c1, c2, rfl⟩ := len3 hl
  obtain ⟨h0, h1, h2⟩ := all3 hf
  simp only [cells_int, cells_string, cells_ints, List.drop_zero, List.drop_succ_cons, List.take_succ_cons, List.take_zero] at h0 h1 h2
  obtain ⟨s, hs, ws⟩ := rowIs_string Tryd.underlying9 h0
  obtain ⟨B, len, d, rfl⟩ := row_slice Tryd.underlying37 h1
  obtain ⟨hn, vs, rfl, hvs, hbd⟩ := ints_open h1
  obtain ⟨z, hz, wz⟩ := rowIs_int Tryd.underlying3 h2
  simp only [List.cons.injEq, and_true] at hs hz
  exact ⟨⟨⟨s, vs, z⟩, B, d⟩, ⟨ws, hn, hvs, hbd⟩, by rw [hs, hz]; rfl⟩
theorem keys_open {w : World} {n : Nat} {A : Option Addr} {len cap : Nat} (h : RowIs Tryd.prog w n 33 [.slice A len cap]) : len ≤ maxLen ∧ ∃ l : List KV, l.length = len ∧ KsAt w A l ∧ ∀ x ∈ l, x.key.size ≤ maxLen ∧ x.vals.length ≤ maxLen ∧ ∀ z ∈ x.vals, Bd z := by
  obtain ⟨h1, l, hl, hok, hp⟩ := slice_open Tryd.underlying33 h cells_key (fun x : KI => cellsOfK x.kv x.B x.d) (KI.ok w) (fun x => ⟨_, _, rfl⟩) (fun m row hr => row_key hr)
  refine ⟨h1, l.map (·.kv), by rw [List.length_map]; exact hl, fun k x hx => ?_, fun x hx => ?_⟩
  · rw [List.getElem?_map] at hx
    obtain ⟨y, hy, rfl⟩ := Option.map_eq_some_iff.1 hx
    obtain ⟨g, o, hA, hg, hc⟩ := hp k y hy
    have c0 := hc 0 _ rfl
    have c1 := hc 1 _ rfl
    have c2 := hc 2 _ rfl
    simp only [← Nat.add_assoc, Nat.add_zero] at c0 c1 c2
    exact ⟨g, o, y.B, y.d, hA, hg, ⟨c0, c1, c2⟩, (hok y (List.mem_of_getElem? hy)).2.2.1⟩
  · obtain ⟨y, hy, rfl⟩ := List.mem_map.1 hx
    obtain ⟨a, b, _, c⟩ := hok y hy
    exact ⟨a, b, c⟩
structure XI where
  iv : IV
  B : Option Addr
  d : Nat
def okI (x : IV) : Prop := x.word.size ≤ maxLen ∧ x.name.size ≤ maxLen ∧ x.keys.length ≤ maxLen ∧ ∀ k ∈ x.keys, k.key.size ≤ maxLen ∧ k.vals.length ≤ maxLen ∧ ∀ z ∈ k.vals, Bd z
theorem row_item {w : World} {n : Nat} {cs : List Value} (h : RowIs Tryd.prog w n 35 cs) : ∃ x : XI, (okI x.iv ∧ KsAt w x.B x.iv.keys) ∧ cs = cellsOfX x.iv x.B x.d := by
  obtain ⟨hl, m, hf⟩ := rowIs_struct Tryd.underlying35 h
  rw [cells_item] at hl
  obtain ⟨c0, c1, c2, c3, rfl⟩ := len4 hl
  obtain ⟨h0, h1, h2, h3⟩ := all4 hf
  simp only [cells_int, cells_string, cells_keys, List.drop_zero, List.drop_succ_cons, List.take_succ_cons, List.take_zero] at h0 h1 h2 h3
  obtain ⟨s, hs, ws⟩ := rowIs_string Tryd.underlying9 h0
  obtain ⟨t, ht, wt⟩ := rowIs_string Tryd.underlying9 h1
  obtain ⟨B, len, d, rfl⟩ := row_slice Tryd.underlying33 h2
  obtain ⟨hn, ks, rfl, hks, hok⟩ := keys_open h2
  obtain ⟨z, hz, wz⟩ := rowIs_int Tryd.underlying3 h3
  simp only [List.cons.injEq, and_true] at hs ht hz
  exact ⟨⟨⟨s, t, ks, z⟩, B, d⟩, ⟨⟨ws, wt, hn, hok⟩, hks⟩, by rw [hs, ht, hz]; rfl⟩
theorem items_open {w : World} {n : Nat} {A : Option Addr} {len cap : Nat} (h : RowIs Tryd.prog w n 23 [.slice A len cap]) : len ≤ maxLen ∧ ∃ l : List IV, l.length = len ∧ XsAt w A l ∧ ∀ x ∈ l, okI x := by
  obtain ⟨h1, l, hl, hok, hp⟩ := slice_open Tryd.underlying23 h cells_item (fun x : XI => cellsOfX x.iv x.B x.d) (fun x => okI x.iv ∧ KsAt w x.B x.iv.keys) (fun x => ⟨_, _, rfl⟩) (fun m row hr => row_item hr)
  refine ⟨h1, l.map (·.iv), by rw [List.length_map]; exact hl, fun k x hx => ?_, fun x hx => ?_⟩
  · rw [List.getElem?_map] at hx
    obtain ⟨y, hy, rfl⟩ := Option.map_eq_some_iff.1 hx
    obtain ⟨g, o, hA, hg, hc⟩ := hp k y hy
    have c0 := hc 0 _ rfl
    have c1 := hc 1 _ rfl
    have c2 := hc 2 _ rfl
    have c3 := hc 3 _ rfl
    simp only [← Nat.add_assoc, Nat.add_zero] at c0 c1 c2 c3
    exact ⟨g, o, y.B, y.d, hA, hg, ⟨c0, c1, c2, c3⟩, (hok y (List.mem_of_getElem? hy)).2⟩
  · obtain ⟨y, hy, rfl⟩ := List.mem_map.1 hx
    exact (hok y hy).1
end Go.Proofs.YteondblmcooklaaDoor
