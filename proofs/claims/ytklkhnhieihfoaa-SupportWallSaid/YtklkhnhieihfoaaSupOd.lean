/- SupportWall: bounds of Finish; rows beside boxes; arguments outside the guards. -/
import Derived.Test.YtklkhnhieihfoaaSupI
import Derived.Test.YtklkhnhieihfoaaSupN
import Derived.Test.YtklkhnhieihfoaaSupK
import Derived.Test.YtklkhnhieihfoaaOpenV
import Derived.Test.YtklkhnhieihfoaaDrawQ
namespace Go.Proofs.Ytklkhnhieihfoaa
open Go Go.RowKit
set_option linter.unusedVariables false
theorem finA_bd {e1 e2 M : Int} (h1 : -1000000 ≤ e1 ∧ e1 ≤ 1000000) (h2 : -1000000 ≤ e2 ∧ e2 ≤ 1000000) : ∀ s : Nat, s ≤ 65 → (-1000000 ≤ (finA e1 e2 M s).1 ∧ (finA e1 e2 M s).1 ≤ 1000000) ∧ -1000000 ≤ (finA e1 e2 M s).2 ∧ (finA e1 e2 M s).2 ≤ 1000000
  | 0, _ => by simp [finA]
  | s + 1, hs => by
    rw [finA_succ]
    split
    · have j1 := part_bd h1.1 h1.2 (show s ≤ 64 by omega)
      have j2 := part_bd h2.1 h2.2 (show s ≤ 64 by omega)
      simp only; omega
    · exact finA_bd h1 h2 s (by omega)
theorem fin_bd {P : Pl} (hf : fitB P = true) : ((-9000000 ≤ (finR P).1.1 ∧ (finR P).1.1 ≤ 9000000) ∧ -9000000 ≤ (finR P).1.2 ∧ (finR P).1.2 ≤ 9000000) ∧ (-1000000 ≤ (finR P).2.1 ∧ (finR P).2.1 ≤ 1000000) ∧ -1000000 ≤ (finR P).2.2 ∧ (finR P).2.2 ≤ 1000000 := by
  obtain ⟨a, b, c, _, _⟩ := fit_parts hf
  unfold finR
  rw [if_pos hf]
  split
  · simp only; omega
  · refine ⟨by simp only; omega, ?_⟩
    exact finA_bd (by omega) (by omega) 65 (by omega)
theorem kept_inn {x y : Int} (h : -1073741824 ≤ x ∧ x ≤ 1073741824 ∧ -1073741824 ≤ y ∧ y ≤ 1073741824) : keptI x y x = x ∧ keptI x y y = y := by
  have := small_of h
  unfold keptI
  simp [this]
theorem sub_inn (a b c d : Int) (w : World) (h1 : -100000000 ≤ a ∧ a ≤ 100000000 ∧ -100000000 ≤ b ∧ b ≤ 100000000) (h2 : -100000000 ≤ c ∧ c ≤ 100000000 ∧ -100000000 ≤ d ∧ d ≤ 100000000) :
    Calls Try.prog 20 #[.agg #[.int .i64 a, .int .i64 b], .agg #[.int .i64 c, .int .i64 d]] w fun e w' => e = .returned (.agg #[.int .i64 (a - c), .int .i64 (b - d)]) ∧ Below w.heap.size w w' := by
  have h1' : smallB a b = true := small_of (by omega)
  have h2' : smallB c d = true := small_of (by omega)
  have e := kept_inn (x := a - c) (y := b - d) (by omega)
  have hk := fun w => kept_any (a - c) (b - d) w
  rw [e.1, e.2] at hk
  have hs1 := fun w => small_any a b w
  have hs2 := fun w => small_any c d w
  rw [h1'] at hs1
  rw [h2'] at hs2
  obtain ⟨q1, q2, q3, q4⟩ := h1
  obtain ⟨q5, q6, q7, q8⟩ := h2
  clear h1' h2' e
  go_enter Try.func20, Try.ntmps20; (try simp only [List.append_eq, List.cons_append, List.nil_append])
  go_wp2_with fail
  -- own blocks: w.heap.size:2, w.heap.size + 1:2, w.heap.size + 1 + 1:2
  (go_at_call 67; refine (hs1 _).mono ?_; rintro e w1 ⟨rfl, hb_w1⟩; have hz_w1 := hb_w1.size; (try simp at hz_w1); (with_reducible apply cel2 (b := w.heap.size) hb_w1); (focus ((try simp) <;> omega)); (focus omega); (focus (go_simp; try exact rfl)); (focus (go_simp; try exact rfl)); (focus (intro o; go_simp)); intro cc cc fz hl; (with_reducible apply cel2 (b := w.heap.size + 1) hb_w1); (focus ((try simp) <;> omega)); (focus omega); (focus (go_simp; try exact rfl)); (focus (go_simp; try exact rfl)); (focus (intro o; go_simp)); intro cc cc fz hl; (with_reducible apply cel2 (b := w.heap.size + 1 + 1) hb_w1); (focus ((try simp) <;> omega)); (focus omega); (focus (go_simp; try exact rfl)); (focus (go_simp; try exact rfl)); (focus (intro o; go_simp)); intro cc cc fz hl)
  go_wp2_with fail
  (go_at_call 67; refine (hs2 _).mono ?_; rintro e w2 ⟨rfl, hb_w2⟩; have hz_w2 := hb_w2.size; (try simp at hz_w2); (with_reducible apply cel2 (b := w.heap.size) hb_w2); (focus ((try simp) <;> omega)); (focus omega); (focus (go_simp; try exact rfl)); (focus (go_simp; try exact rfl)); (focus (intro o; go_simp)); intro cc cc fz hl; (with_reducible apply cel2 (b := w.heap.size + 1) hb_w2); (focus ((try simp) <;> omega)); (focus omega); (focus (go_simp; try exact rfl)); (focus (go_simp; try exact rfl)); (focus (intro o; go_simp)); intro cc cc fz hl; (with_reducible apply cel2 (b := w.heap.size + 1 + 1) hb_w2); (focus ((try simp) <;> omega)); (focus omega); (focus (go_simp; try exact rfl)); (focus (go_simp; try exact rfl)); (focus (intro o; go_simp)); intro cc cc fz hl)
  go_wp2_with fail
  (go_at_call 68; refine (hk _).mono ?_; rintro e w3 ⟨rfl, hb_w3⟩; have hz_w3 := hb_w3.size; (try simp at hz_w3); (with_reducible apply cel2 (b := w.heap.size) hb_w3); (focus ((try simp) <;> omega)); (focus omega); (focus (go_simp; try exact rfl)); (focus (go_simp; try exact rfl)); (focus (intro o; go_simp)); intro cc cc fz hl; (with_reducible apply cel2 (b := w.heap.size + 1) hb_w3); (focus ((try simp) <;> omega)); (focus omega); (focus (go_simp; try exact rfl)); (focus (go_simp; try exact rfl)); (focus (intro o; go_simp)); intro cc cc fz hl; (with_reducible apply cel2 (b := w.heap.size + 1 + 1) hb_w3); (focus ((try simp) <;> omega)); (focus omega); (focus (go_simp; try exact rfl)); (focus (go_simp; try exact rfl)); (focus (intro o; go_simp)); intro cc cc fz hl)
  go_wp2_with fail
  refine bodyPost_ret (v := .agg #[.int .i64 (a - c), .int .i64 (b - d)]) (by simp only [results, Try.results20]; go_simp) rfl ⟨?_, ?_⟩
  · rfl
  · ((with_reducible (repeat (first | exact bR _ _ | refine bS ?_ ?_ _ | refine bA ?_ ?_ _ | refine bD ?_ | refine bT ?_ (by assumption) ?_ | refine bO (by assumption) ?_ ?_))) <;> (first | omega | (simp; done) | (simp <;> omega)))
def TyAt (W : World) (g : Nat) (T : TypeId) : Prop := ∃ cs fr, W.heap[g]? = some (.cells cs T fr)
theorem TyAt.of {W : World} {g : Nat} {T : TypeId} {cs : Array Value} (h : W.heap[g]? = some (.cells cs T)) : TyAt W g T := ⟨cs, _, h⟩
theorem TyAt.set {W : World} {g : Nat} {T : TypeId} (h : TyAt W g T) (p : Addr) (u : Value) : TyAt (W.setCell p u) g T := by
  obtain ⟨cs, fr, h⟩ := h
  by_cases hp : p.block = g
  · refine ⟨(if p.spot.isSome = true then cs else cs.setIfInBounds p.off u), fr, ?_⟩
    simp [World.setCell, Array.getElem?_modify, hp, h]
  · exact ⟨cs, fr, by rw [Below.heap_setCell _ _ _ _ (fun e => hp e.symm)]; exact h⟩
theorem own_off {W : World} {base size n g : Nat} {e T : TypeId} {v : Value} {xs : List Value} (h : W.ownsRow base e size v n xs) (ht : TyAt W g T) (hT : T ≠ e) (k : Nat) (u : Value) : (W.setCell ⟨g, k, none⟩ u).ownsRow base e size v n xs := by
  obtain ⟨h1, h2⟩ := h
  rcases h2 with h2 | ⟨g', cap, cur, hv, hg, hh, r⟩
  · exact ⟨h1, .inl h2⟩
  · refine ⟨h1, .inr ⟨g', cap, cur, hv, hg, ?_, r⟩⟩
    have hne : g' ≠ g := fun hgg => by
      subst hgg
      obtain ⟨cs, fr, ht⟩ := ht
      rw [hh] at ht
      have e1 := Option.some.inj ht
      simp only [Obj.cells.injEq] at e1
      exact hT e1.2.1.symm
    rw [Below.heap_setCell _ _ _ _ hne]
    exact hh
theorem OwnK.off {W : World} {base g : Nat} {T : TypeId} {A : Option Addr} {c : Nat} {l : List Int} (h : OwnK W base A c l) (ht : TyAt W g T) (hT : T ≠ 3) (k : Nat) (u : Value) : OwnK (W.setCell ⟨g, k, none⟩ u) base A c l := own_off h ht hT k u
theorem OwnN.off {W : World} {base g : Nat} {T : TypeId} {A : Option Addr} {c : Nat} {l : List V2} (h : OwnN W base A c l) (ht : TyAt W g T) (hT : T ≠ 23) (k : Nat) (u : Value) : OwnN (W.setCell ⟨g, k, none⟩ u) base A c l := own_off h ht hT k u
theorem ic_of {g : Nat} {x : Int} {W : World} {T : TypeId} (h : W.heap[g]? = some (.cells #[.int .i64 x] T)) : IC g x W := by
  have cc := cell_of_row W g 0 _ _ _ h
  unfold IC
  simpa using cc
theorem vc_of {g : Nat} {x y : Int} {W : World} {T : TypeId} (h : W.heap[g]? = some (.cells #[.int .i64 x, .int .i64 y] T)) : VC g (x, y) W := by
  have cc := cell_of_row W g 0 _ _ _ h
  have cd := cell_of_row W g 1 _ _ _ h
  unfold VC
  exact ⟨by simpa using cc, by simpa using cd⟩
end Go.Proofs.Ytklkhnhieihfoaa
