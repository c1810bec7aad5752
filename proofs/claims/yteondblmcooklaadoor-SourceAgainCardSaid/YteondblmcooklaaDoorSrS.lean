/- Small laws of the reference's reader. -/
import Derived.Test.YteondblmcooklaaDoorSrcZ
import Derived.Test.YteondblmcooklaaDoorSrR
namespace Go.Proofs.YteondblmcooklaaDoor
open Go Go.RowKit
set_option linter.unusedVariables false
theorem keys_tup (word : ByteArray) (w : World) : Calls Tryd.prog 32 #[.string word] w fun e w' => Below w.heap.size w w' ∧ ∃ u v, e = .returned (.tuple #[u, v, .bool (isWord word)]) :=
  (rkeys_any word w).mono fun e w' ⟨h1, h2, h3⟩ => by
    cases hw : isWord word
    · exact ⟨h1, _, _, h3 hw⟩
    · obtain ⟨A, c, B, d, he, _⟩ := h2 hw
      exact ⟨h1, _, _, he⟩
theorem rkind_at {w : World} {rb N i e c : Nat} {A : Option Addr} {L : List WV} (h : RRd w rb N A L i e c) {x : WV} (hx : L[i]? = some x) : Calls Tryd.prog 43 #[.pointer (some ⟨rb, 0, none⟩)] w fun ε w' => ε = .returned (.int .i64 x.kind) ∧ Below w.heap.size w w' := by
  have hl := (List.getElem?_eq_some_iff.1 hx).1
  have := rkind_any w rb N i e c A L h (by omega)
  rwa [kd_some hx] at this
theorem rkind_end {w : World} {rb N i e c : Nat} {A : Option Addr} {L : List WV} (h : RRd w rb N A L i e c) (hi : i = L.length) : Calls Tryd.prog 43 #[.pointer (some ⟨rb, 0, none⟩)] w fun ε w' => ε = .returned (.int .i64 0) ∧ Below w.heap.size w w' := by
  have := rkind_any w rb N i e c A L h (by omega)
  rwa [kd_none (by omega)] at this
theorem drop_get {L : List WV} {i : Nat} {x : WV} (hx : L[i]? = some x) : L.drop i = x :: L.drop (i + 1) := by
  obtain ⟨h1, rfl⟩ := List.getElem?_eq_some_iff.1 hx
  exact List.drop_eq_getElem_cons h1
theorem atR_at {L : List WV} {i e : Nat} {x : WV} (hx : L[i]? = some x) : atR (L.drop i) e = x.at_ := by rw [drop_get hx]; rfl
theorem atR_end {L : List WV} {i e : Nat} (hi : i = L.length) : atR (L.drop i) e = e := by rw [hi, List.drop_length]; rfl
theorem rat_at {w : World} {rb N i e c : Nat} {A : Option Addr} {L : List WV} (h : RRd w rb N A L i e c) {x : WV} (hx : L[i]? = some x) : Calls Tryd.prog 27 #[.pointer (some ⟨rb, 0, none⟩)] w fun ε w' => ε = .returned (.int .i64 x.at_) ∧ Below w.heap.size w w' := by
  have hl := (List.getElem?_eq_some_iff.1 hx).1
  have := rat_any w rb N i e c A L h (by omega)
  rwa [atR_at hx] at this
theorem WvAt.get' {w : World} {N g o : Nat} {L : List WV} (h : WvAt w N (some ⟨g, o, none⟩) L) {k : Nat} {x : WV} (hx : L[k]? = some x) : g < N ∧ w.cell? ⟨g, o + k * 4, none⟩ = some (.int .i64 x.kind) ∧ w.cell? ⟨g, o + k * 4 + 1, none⟩ = some (.string x.text) ∧ w.cell? ⟨g, o + k * 4 + 2, none⟩ = some (.int .i64 x.num) ∧ w.cell? ⟨g, o + k * 4 + 3, none⟩ = some (.int .i64 x.at_) := by
  obtain ⟨g', o', hA, hg, h1⟩ := h.get hx
  obtain ⟨rfl, rfl⟩ : g = g' ∧ o = o' := by simpa using hA
  exact ⟨hg, h1⟩
/-- What a run of the reference's statement hands back. -/
def StOut (rb N e : Nat) (A : Option Addr) (L : List WV) (c : Nat) (R : PR IV) (w : World) (ε : Ending) (w' : World) : Prop := But rb w w' ∧ match R with
  | .err a b => ∃ a0 a1 A0 n0 d0 p0 i, ε = .returned (.tuple #[.agg #[.string a0, .string a1, .slice A0 n0 d0, .int .i64 p0], .int .i64 a]) ∧ i ≤ L.length ∧ atR (L.drop i) e = b ∧ RRd w' rb N A L i e c
  | .ok x r => ∃ B d i, ε = .returned (.tuple #[vOfX x B d, .int .i64 0]) ∧ KsOwn w' w.heap.size 72 B d x.keys ∧ i ≤ L.length ∧ L.drop i = r ∧ RRd w' rb N A L i e c
theorem RRd.step' {w : World} {rb N : Nat} {A : Option Addr} {L : List WV} {i e c : Nat} (h : RRd w rb N A L i e c) (j : Nat) {v : Value} (hv : v = .int .i64 j) : RRd (w.setCell ⟨rb, 1, none⟩ v) rb N A L j e c := hv ▸ h.step j
theorem C4.mk' {w : World} {b : Nat} {v0 v1 v2 v3 : Value} {t : TypeId} (hb : b < w.heap.size) (h : w.heap[b]? = some (.cells #[v0, v1, v2, v3] t)) : C4 w b v0 v1 v2 v3 :=
  ⟨cell_of_row w b 0 _ _ _ h, cell_of_row w b 1 _ _ _ h, cell_of_row w b 2 _ _ _ h, cell_of_row w b 3 _ _ _ h, fun o => frozen_of_row w b o _ _ h, hb⟩
theorem pin_eq {c : Code} {P : Program} {Q : Exit → Act → World → Prop} {a : Act} {w : World} (h : ∀ w', w' = w → c.wp P Q a w') : c.wp P Q a w := h w rfl
theorem pin_callseq {P : Program} {f : FuncId} {args : Array Value} {w : World} {Q : Ending → World → Prop} (h : ∀ w', w' = w → Calls P f args w' Q) : Calls P f args w Q := h w rfl
theorem C3.low {w : World} {b : Nat} {v0 v1 v2 : Value} (h : C3 w b v0 v1 v2) {p : Addr} (hp : p.block ≠ b) (u : Value) : C3 (w.setCell p u) b v0 v1 v2 := h.block (by simp) (Below.heap_setCell _ _ _ _ (by omega))
theorem kd_get {L : List WV} {i : Nat} {k : Int} (h : kdR L i = k) (hk : k ≠ 0) : ∃ x, L[i]? = some x ∧ x.kind = k := by
  unfold kdR at h
  split at h
  · rename_i x hx; exact ⟨x, hx, h⟩
  · exact absurd h.symm hk
theorem kd_not {L : List WV} {i : Nat} {k : Int} (h : ¬ kdR L i = k) : isK (L.drop i) k = false ∧ ∀ x l, L.drop i = x :: l → ¬ x.kind = k := by
  have key : ∀ x l, L.drop i = x :: l → ¬ x.kind = k := fun x l hx he => by
    have hx' : L[i]? = some x := by rw [← List.head?_drop, hx]; rfl
    exact h ((kd_some hx').trans he)
  refine ⟨?_, key⟩
  cases hd : L.drop i with
  | nil => rfl
  | cons x l => simpa [isK] using key x l hd
theorem keysF_bad {L : List WV} {i e f : Nat} {word : ByteArray} {ks : List KV} (h3 : ¬ kdR L i = 3) (h1 : ¬ kdR L i = 1) : keysF e word (f + 1) ks (L.drop i) = .err 4 (atR (L.drop i) e) := by
  have g3 := (kd_not h3).2
  have g1 := (kd_not h1).2
  cases hd : L.drop i with
  | nil => rfl
  | cons y l => simp only [keysF]; rw [if_neg (g3 y l hd), if_pos (g1 y l hd)]; rfl
theorem numsF_bad {L : List WV} {i e n : Nat} {vs : List Int} (h2 : ¬ kdR L i = 2) : numsF e (n + 1) vs (L.drop i) = .err 4 (atR (L.drop i) e) := by
  have g2 := (kd_not h2).2
  cases hd : L.drop i with
  | nil => rfl
  | cons y l => simp only [numsF]; rw [if_neg (g2 y l hd)]; rfl
theorem itemF_name {L : List WV} {i e : Nat} {tx : ByteArray} {nm : Int} {pl : Nat} (hw : isWord tx = true) (ht : ¬ tx = tTable) (h1 : ¬ kdR L i = 1) : itemF e (⟨1, tx, nm, pl⟩ :: L.drop i) = .err 4 (atR (L.drop i) e) := by
  have g1 := (kd_not h1).2
  simp only [itemF]
  rw [if_neg (by simp), if_neg (by simp [hw]), if_neg ht]
  cases hd : L.drop i with
  | nil => rfl
  | cons y l => simp only; rw [if_pos (g1 y l hd)]; rfl
end Go.Proofs.YteondblmcooklaaDoor
