/- A list that came in, opened: any element; integers; acts of SupportEnergy. -/
import Derived.Test.YtklkhnhieihfoaaOpenVs
import Derived.Test.YtklkhnhieihfoaaSupA
namespace Go.Proofs.Ytklkhnhieihfoaa
open Go Go.RowKit
theorem slice_open {α : Type} {w : World} {n : Nat} {t e : TypeId} {A : Option Addr} {len cap size : Nat} (hu : Try.prog.underlying t = some (.slice e)) (h : RowIs Try.prog w n t [.slice A len cap]) (hc : Try.prog.cellsOf e = size)
    (cells : α → List Value) (ok : α → Prop) (hpos : ∀ x, ∃ v r, cells x = v :: r) (hrow : ∀ m row, RowIs Try.prog w m e row → ∃ x, ok x ∧ row = cells x) :
    len ≤ maxLen ∧ ∃ l : List α, l.length = len ∧ (∀ x ∈ l, ok x) ∧ ∀ k x, l[k]? = some x → ∃ g o, A = some ⟨g, o, none⟩ ∧ g < w.heap.size ∧ ∀ j v, (cells x)[j]? = some v → w.cell? ⟨g, o + (k * size + j), none⟩ = some v := by
  have none0 : len = 0 → len ≤ maxLen ∧ ∃ l : List α, l.length = len ∧ (∀ x ∈ l, ok x) ∧ ∀ k x, l[k]? = some x → ∃ g o, A = some ⟨g, o, none⟩ ∧ g < w.heap.size ∧ ∀ j v, (cells x)[j]? = some v → w.cell? ⟨g, o + (k * size + j), none⟩ = some v := fun h0 => by
    subst h0
    exact ⟨by unfold maxLen; omega, [], rfl, by simp, fun k x h => by simp at h⟩
  rcases rowIs_slice hu h with h0 | ⟨a, len', cap', m, hcs, hlc, hcap, hrows⟩
  · simp only [List.cons.injEq, Value.slice.injEq, and_true] at h0
    exact none0 h0.2.1
  · simp only [List.cons.injEq, Value.slice.injEq, and_true] at hcs
    obtain ⟨rfl, rfl, rfl⟩ := hcs
    rcases Nat.eq_zero_or_pos len with h0 | h0
    · exact none0 h0
    · refine ⟨by omega, ?_⟩
      have hr : ∀ i, i < len → ∃ x : α, ok x ∧ ∀ j v, (cells x)[j]? = some v → w.cell? (a.add (i * size + j)) = some v := by
        intro i hi
        obtain ⟨row, hl, hc', hrw⟩ := hrows i hi
        obtain ⟨x, hx, rfl⟩ := hrow _ _ hrw
        rw [hc] at hc'
        exact ⟨x, hx, hc'⟩
      obtain ⟨x0, _, hx0⟩ := hr 0 h0
      obtain ⟨v0, r0, e0⟩ := hpos x0
      have hc0 := hx0 0 v0 (by rw [e0]; rfl)
      obtain ⟨g, o, spot⟩ := a
      have hsp : spot = none := by simpa [Addr.add] using World.cell?_spot hc0
      subst hsp
      have hg : g < w.heap.size := by
        have := World.block_lt_of_cell? w _ hc0
        simpa [Addr.add] using this
      clear hc0 hx0 e0
      have build : ∀ m, m ≤ len → ∃ l : List α, l.length = m ∧ (∀ k x, l[k]? = some x → ok x ∧ ∀ j v, (cells x)[j]? = some v → w.cell? ((⟨g, o, none⟩ : Addr).add (k * size + j)) = some v) := by
        intro m
        induction m with
        | zero => intro _; exact ⟨[], rfl, fun k x h => by simp at h⟩
        | succ m ih =>
          intro hm
          obtain ⟨l, hl, hp⟩ := ih (by omega)
          obtain ⟨x, hx⟩ := hr m (by omega)
          refine ⟨l ++ [x], by simp [hl], fun k y hk => ?_⟩
          rcases Nat.lt_or_ge k l.length with h | h
          · rw [List.getElem?_append_left h] at hk; exact hp k y hk
          · rw [List.getElem?_append_right h] at hk
            have hk0 : k = m := by
              have := (List.getElem?_eq_some_iff.1 hk).1
              simp at this; omega
            subst hk0
            rw [hl, Nat.sub_self] at hk
            simp only [List.getElem?_cons_zero, Option.some.injEq] at hk
            subst hk
            exact hx
      obtain ⟨l, hl, hp⟩ := build len (Nat.le_refl _)
      have hadd : ∀ j, (⟨g, o, none⟩ : Addr).add j = ⟨g, o + j, none⟩ := by intro j; unfold Addr.add; split <;> simp_all
      refine ⟨l, hl, fun x hx => ?_, fun k x hx => ⟨g, o, rfl, hg, fun j v hj => ?_⟩⟩
      · obtain ⟨k, hk⟩ := List.getElem?_of_mem hx
        exact (hp k x hk).1
      · have := (hp k x hx).2 j v hj; rwa [hadd] at this
theorem ks_open {w : World} {n : Nat} {A : Option Addr} {len cap : Nat} (h : RowIs Try.prog w n 29 [.slice A len cap]) : len ≤ maxLen ∧ ∃ l : List Int, l.length = len ∧ IAt w A l := by
  obtain ⟨h1, l, hl, _, hp⟩ := slice_open Try.underlying29 h cells_int (fun x : Int => [Value.int .i64 x]) (fun _ => True) (fun x => ⟨_, _, rfl⟩) (fun m row hr => by
    obtain ⟨x, hx, _⟩ := rowIs_int Try.underlying3 hr
    exact ⟨x, trivial, hx⟩)
  refine ⟨h1, l, hl, fun k x hx => ?_⟩
  obtain ⟨g, o, hA, hg, hc⟩ := hp k x hx
  exact ⟨g, o, hA, hg, by have := hc 0 _ rfl; simpa using this⟩
structure Ac where
  (kd a b : Int)
  (ks : List Int)
  (ns : List V2)
  (kA : Option Addr)
  (kc : Nat)
  (nA : Option Addr)
  (nc : Nat)
def Ac.cells (x : Ac) : List Value := [.int .i64 x.kd, .int .i64 x.a, .int .i64 x.b, .slice x.kA x.ks.length x.kc, .slice x.nA x.ns.length x.nc]
def Ac.ok (w : World) (x : Ac) : Prop := Bd x.kd ∧ Bd x.a ∧ Bd x.b ∧ x.ks.length ≤ maxLen ∧ x.ns.length ≤ maxLen ∧ IAt w x.kA x.ks ∧ VAt w x.nA x.ns
theorem cells_act : Try.prog.cellsOf 48 = 5 := by kernel_rfl
theorem cells_ints : Try.prog.cellsOf 29 = 1 := by kernel_rfl
theorem cells_vecs : Try.prog.cellsOf 30 = 1 := by kernel_rfl
theorem len5 {α : Type} {l : List α} (h : l.length = 5) : ∃ a b c d e, l = [a, b, c, d, e] := by
  match l, h with
  | [a, b, c, d, e], _ => exact ⟨a, b, c, d, e, rfl⟩
theorem row_slice {w : World} {n : Nat} {t e : TypeId} {c : Value} (hu : Try.prog.underlying t = some (.slice e)) (h : RowIs Try.prog w n t [c]) : ∃ A len cap, c = .slice A len cap := by
  rcases rowIs_slice hu h with h0 | ⟨a, len, cap, m, hcs, _⟩
  · simp only [List.cons.injEq, and_true] at h0; exact ⟨_, _, _, h0⟩
  · simp only [List.cons.injEq, and_true] at hcs; exact ⟨_, _, _, hcs⟩
theorem row_act {w : World} {n : Nat} {cs : List Value} (h : RowIs Try.prog w n 48 cs) : ∃ x : Ac, x.ok w ∧ cs = x.cells := by
  obtain ⟨hl, m, hf⟩ := rowIs_struct Try.underlying48 h
  rw [cells_act] at hl
  obtain ⟨c0, c1, c2, c3, c4, rfl⟩ := len5 hl
  obtain ⟨h0, h1, h2, h3⟩ := all4 hf
  simp only [cells_int, cells_vec, cells_ints, cells_vecs, List.drop_zero, List.drop_succ_cons, List.take_succ_cons, List.take_zero] at h0 h1 h2 h3
  obtain ⟨z, hz, wz⟩ := rowIs_int Try.underlying3 h0
  obtain ⟨a, b, e1, b1, b2⟩ := row_vec h1
  obtain ⟨kA, kl, kc, rfl⟩ := row_slice Try.underlying29 h2
  obtain ⟨nA, nl, nc, rfl⟩ := row_slice Try.underlying30 h3
  obtain ⟨hk, ks, rfl, hks⟩ := ks_open h2
  obtain ⟨hn, ns, rfl, hns, _⟩ := vs_open h3
  simp only [List.cons.injEq, and_true] at hz e1
  exact ⟨⟨z, a, b, ks, ns, kA, kc, nA, nc⟩, ⟨wf_bd wz, b1, b2, hk, hn, hks, hns⟩, by rw [hz, e1.1, e1.2]; rfl⟩
/-- An address leads to acts. -/
def AAt (w : World) (A : Option Addr) (l : List Ac) : Prop := ∀ k x, l[k]? = some x → ∃ g o, A = some ⟨g, o, none⟩ ∧ g < w.heap.size ∧ w.cell? ⟨g, o + k * 5, none⟩ = some (.int .i64 x.kd) ∧ w.cell? ⟨g, o + k * 5 + 1, none⟩ = some (.int .i64 x.a) ∧ w.cell? ⟨g, o + k * 5 + 2, none⟩ = some (.int .i64 x.b) ∧ w.cell? ⟨g, o + k * 5 + 3, none⟩ = some (.slice x.kA x.ks.length x.kc) ∧ w.cell? ⟨g, o + k * 5 + 4, none⟩ = some (.slice x.nA x.ns.length x.nc) ∧ x.ok w
theorem acts_open {w : World} {n : Nat} {A : Option Addr} {len cap : Nat} (h : RowIs Try.prog w n 45 [.slice A len cap]) : len ≤ maxLen ∧ ∃ l : List Ac, l.length = len ∧ AAt w A l := by
  obtain ⟨h1, l, hl, hok, hp⟩ := slice_open Try.underlying45 h cells_act Ac.cells (Ac.ok w) (fun x => ⟨_, _, rfl⟩) (fun m row hr => row_act hr)
  refine ⟨h1, l, hl, fun k x hx => ?_⟩
  obtain ⟨g, o, hA, hg, hc⟩ := hp k x hx
  have c0 := hc 0 _ rfl
  have c1 := hc 1 _ rfl
  have c2 := hc 2 _ rfl
  have c3 := hc 3 _ rfl
  have c4 := hc 4 _ rfl
  simp only [← Nat.add_assoc, Nat.add_zero] at c0 c1 c2 c3 c4
  exact ⟨g, o, hA, hg, c0, c1, c2, c3, c4, hok x (List.mem_of_getElem? hx)⟩
theorem Ac.ok.below {w w1 : World} {x : Ac} (h : x.ok w) (hb : Below w.heap.size w w1) : x.ok w1 := by
  obtain ⟨a, b, c, d, e, f, g⟩ := h
  exact ⟨a, b, c, d, e, f.below hb (Nat.le_refl _), g.below hb (Nat.le_refl _)⟩
theorem AAt.below {w w1 : World} {A : Option Addr} {l : List Ac} (h : AAt w A l) (hb : Below w.heap.size w w1) : AAt w1 A l := by
  intro k x hx
  obtain ⟨g, o, hA, hg, c0, c1, c2, c3, c4, ok⟩ := h k x hx
  refine ⟨g, o, hA, Nat.lt_of_lt_of_le hg hb.size, ?_, ?_, ?_, ?_, ?_, ok.below hb⟩ <;> (rw [hb.cell hg]; assumption)
end Go.Proofs.Ytklkhnhieihfoaa
