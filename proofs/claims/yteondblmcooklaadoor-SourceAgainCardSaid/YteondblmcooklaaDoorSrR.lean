/- The reference's reader: its kind and at. Guarded operations beside a chain. -/
import Derived.Test.YteondblmcooklaaDoorSrcY
namespace Go.Proofs.YteondblmcooklaaDoor
open Go Go.RowKit
set_option linter.unusedVariables false
section
variable {P : Program} {ops : Array Oper} {md : Region.Mode} {S : World → Prop} {Q : Exit → Act → World → Prop}
theorem wpZ_on {i f : Nat} {n : List Nat} {o : Oper} {L : Act → World → Prop} {listed : Array Bool} {a : Act} {w : World} (hi : ops[i]? = some o) (hB : stepBZ md ops n i listed = true) (hg : Region.wanted o (yielded ops a.tmps) = true) (v : Value)
    (hQ : ∀ c a w, Q (.panic c) (a.put o.dst v) w → Q (.panic c) a w) (hS : S w)
    (h : ∀ w, S w → (execOp a.eval o).run P w = .ok (.value v) w) (hk : ∀ K : Act → World → Prop, (∀ a w, wpZ P md ops S Q n L f (listed.setIfInBounds i true) a w → K a w) → K (a.put o.dst v) w) : wpZ P md ops S Q n L (f + 1) listed a w := by
  obtain ⟨h1, h2, h3, h4⟩ := stepB_specZ hi hB
  exact wpZ_first h1.1 h2 hi hQ f listed a w (dcB_spec h1.2) (Region.free_spec hi h4) h3 (.inl ⟨hg, h⟩) hS (hk _ fun _ _ h => h)
theorem wpZ_off {i f : Nat} {n : List Nat} {o : Oper} {L : Act → World → Prop} {listed : Array Bool} {a : Act} {w : World} (hi : ops[i]? = some o) (hB : stepBZ md ops n i listed = true) (hg : Region.wanted o (yielded ops a.tmps) = false)
    (hQ : ∀ c a w, Q (.panic c) (a.put o.dst undef) w → Q (.panic c) a w) (hS : S w)
    (hk : ∀ K : Act → World → Prop, (∀ a w, wpZ P md ops S Q n L f (listed.setIfInBounds i true) a w → K a w) → K (a.put o.dst undef) w) : wpZ P md ops S Q n L (f + 1) listed a w := by
  obtain ⟨h1, h2, h3, h4⟩ := stepB_specZ hi hB
  exact wpZ_first h1.1 h2 hi hQ f listed a w (dcB_spec h1.2) (Region.free_spec hi h4) h3 (.inr ⟨hg, rfl⟩) hS (hk _ fun _ _ h => h)
end
/-- The reference's reader: all words, the place, the end. -/
structure RRd (w : World) (rb N : Nat) (A : Option Addr) (L : List WV) (i e c : Nat) : Prop where
  hw : w.cell? ⟨rb, 0, none⟩ = some (.slice A L.length c)
  hi : w.cell? ⟨rb, 1, none⟩ = some (.int .i64 i)
  he : w.cell? ⟨rb, 2, none⟩ = some (.int .i64 e)
  fz : ∀ o, w.frozen? ⟨rb, o, none⟩ = false
  lt : rb < w.heap.size
  nle : N ≤ rb
  len : L.length ≤ 20000
  ws : WvAt w N A L
theorem RRd.heap {w w' : World} {rb N : Nat} {A : Option Addr} {L : List WV} {i e c : Nat} (h : RRd w rb N A L i e c) (hs : w.heap.size ≤ w'.heap.size) (hb : ∀ b, b ≤ rb → w'.heap[b]? = w.heap[b]?) : RRd w' rb N A L i e c := by
  have hr := hb rb (Nat.le_refl _)
  have hn := h.nle
  refine ⟨(World.cell?_of_block (a := ⟨rb, 0, none⟩) hr).trans h.hw, (World.cell?_of_block (a := ⟨rb, 1, none⟩) hr).trans h.hi, (World.cell?_of_block (a := ⟨rb, 2, none⟩) hr).trans h.he, fun o => (World.frozen?_of_block (a := ⟨rb, o, none⟩) hr).trans (h.fz o), Nat.lt_of_lt_of_le h.lt hs, h.nle, h.len, fun k x hx => ?_⟩
  obtain ⟨g, o, hA, hg, hc⟩ := h.ws k x hx
  exact ⟨g, o, hA, hg, fun j u hu => (World.cell?_of_block (hb g (by omega))).trans (hc j u hu)⟩
theorem RRd.below {w w' : World} {rb N B : Nat} {A : Option Addr} {L : List WV} {i e c : Nat} (h : RRd w rb N A L i e c) (hb : Below B w w') (hB : w.heap.size ≤ B) : RRd w' rb N A L i e c := h.heap hb.size fun b hbr => hb.block b (by have := h.lt; omega)
theorem RRd.alloc {w : World} {rb N : Nat} {A : Option Addr} {L : List WV} {i e c : Nat} (h : RRd w rb N A L i e c) (o : Obj) : RRd (w.alloc o) rb N A L i e c := h.below ((Below.refl w.heap.size w).alloc (Nat.le_refl _) o) (Nat.le_refl _)
theorem RRd.drew {w : World} {rb N : Nat} {A : Option Addr} {L : List WV} {i e c : Nat} (h : RRd w rb N A L i e c) : RRd w.drew rb N A L i e c := ⟨h.hw, h.hi, h.he, h.fz, h.lt, h.nle, h.len, h.ws⟩
theorem RRd.set {w : World} {rb N : Nat} {A : Option Addr} {L : List WV} {i e c : Nat} (h : RRd w rb N A L i e c) {p : Addr} (u : Value) (hp : rb < p.block) : RRd (w.setCell p u) rb N A L i e c := h.heap (by simp) fun b hb => Below.heap_setCell _ _ _ _ (by omega)
theorem RRd.grown {w w' : World} {rb N : Nat} {A : Option Addr} {L : List WV} {i e c : Nat} {row : Option Nat} (h : RRd w rb N A L i e c) (hg : w.grownBy w' row) (hr : ∀ k, row = some k → rb < k) : RRd w' rb N A L i e c := h.heap hg.size fun b hb => hg.block b (by have := h.lt; omega) (fun e => by have := hr b e.symm; omega)
/-- One step on. -/
theorem RRd.step {w : World} {rb N : Nat} {A : Option Addr} {L : List WV} {i e c : Nat} (h : RRd w rb N A L i e c) (j : Nat) : RRd (w.setCell ⟨rb, 1, none⟩ (.int .i64 j)) rb N A L j e c := by
  obtain ⟨hw, hi, he, fz, lt, nle, len, ws⟩ := h
  refine ⟨by go_simp; try exact hw, by go_simp, by go_simp; try exact he, fun o => by go_simp; try exact fz o, by simpa using lt, nle, len, fun k x hx => ?_⟩
  obtain ⟨g, o, hA, hg, hc⟩ := ws k x hx
  exact ⟨g, o, hA, hg, fun j u hu => (World.cell?_of_block (Below.heap_setCell _ _ _ _ (by show g ≠ rb; omega))).trans (hc j u hu)⟩
def kdR (L : List WV) (i : Nat) : Int := match L[i]? with
  | some x => x.kind
  | none => 0
theorem kd_some {L : List WV} {i : Nat} {x : WV} (h : L[i]? = some x) : kdR L i = x.kind := by unfold kdR; rw [h]
theorem kd_none {L : List WV} {i : Nat} (h : L.length ≤ i) : kdR L i = 0 := by unfold kdR; rw [List.getElem?_eq_none h]
set_option maxRecDepth 100000 in
set_option maxHeartbeats 2000000 in
theorem rkind_any (w : World) (rb N i e c : Nat) (A : Option Addr) (L : List WV) (h : RRd w rb N A L i e c) (hiL : i ≤ L.length) : Calls Tryd.prog 43 #[.pointer (some ⟨rb, 0, none⟩)] w fun ε w' => ε = .returned (.int .i64 (kdR L i)) ∧ Below w.heap.size w w' := by
  obtain ⟨hw, hi, he, fz, lt, nle, len, ws⟩ := h
  rcases Nat.lt_or_ge i L.length with hl | hl
  · obtain ⟨x, hx⟩ : ∃ x, L[i]? = some x := ⟨L[i], by simp⟩
    obtain ⟨g, o, rfl, hg, c0, c1, c2, c3⟩ := ws.get hx
    rw [kd_some hx]
    have i1 : (i : Int) < (L.length : Int) := by omega
    clear ws hx
    go_enter Tryd.func43, Tryd.ntmps43; (try simp only [List.append_eq, List.cons_append, List.nil_append])
    go_wp2_with fail
    have hS0 : w.drew.cell? ⟨rb, 0, none⟩ = some (.slice (some ⟨g, o, none⟩) L.length c) ∧ w.drew.cell? ⟨rb, 1, none⟩ = some (.int .i64 i) ∧ w.drew.cell? ⟨g, o + i * 4, none⟩ = some (.int .i64 x.kind) := ⟨hw, hi, c0⟩
    refine wp_region_Z (fun W => W.cell? ⟨rb, 0, none⟩ = some (.slice (some ⟨g, o, none⟩) L.length c) ∧ W.cell? ⟨rb, 1, none⟩ = some (.int .i64 i) ∧ W.cell? ⟨g, o + i * 4, none⟩ = some (.int .i64 x.kind)) 10 [] (by kernel_rfl) (by kernel_rfl) ?_
    (apply wpZ_step (i := 0) rfl (by kernel_rfl) rfl; (case h => (intro W hW; obtain ⟨s0, s1, s2⟩ := hW; go_simp; first | done | exact rfl)); (case hQ => (exact fun _ _ _ h => h)); (case hS => assumption); intro K hK; go_simp; refine hK _ _ ?_; clear hK K)
    (apply wpZ_step (i := 1) rfl (by kernel_rfl) rfl; (case h => (intro W hW; obtain ⟨s0, s1, s2⟩ := hW; go_simp; first | done | exact rfl)); (case hQ => (exact fun _ _ _ h => h)); (case hS => assumption); intro K hK; go_simp; refine hK _ _ ?_; clear hK K)
    (apply wpZ_step (i := 2) rfl (by kernel_rfl) rfl; (case h => (intro W hW; obtain ⟨s0, s1, s2⟩ := hW; go_simp; first | done | exact rfl)); (case hQ => (exact fun _ _ _ h => h)); (case hS => assumption); intro K hK; go_simp; refine hK _ _ ?_; clear hK K)
    (apply wpZ_step (i := 3) rfl (by kernel_rfl) rfl; (case h => (intro W hW; obtain ⟨s0, s1, s2⟩ := hW; go_simp; first | done | exact rfl)); (case hQ => (exact fun _ _ _ h => h)); (case hS => assumption); intro K hK; go_simp; refine hK _ _ ?_; clear hK K)
    (apply wpZ_step (i := 4) rfl (by kernel_rfl) rfl; (case h => (intro W hW; obtain ⟨s0, s1, s2⟩ := hW; go_simp; first | done | exact rfl)); (case hQ => (exact fun _ _ _ h => h)); (case hS => assumption); intro K hK; go_simp; refine hK _ _ ?_; clear hK K)
    (apply wpZ_step (i := 5) rfl (by kernel_rfl) rfl; (case h => (intro W hW; obtain ⟨s0, s1, s2⟩ := hW; go_simp; first | done | exact rfl)); (case hQ => (exact fun _ _ _ h => h)); (case hS => assumption); intro K hK; go_simp; refine hK _ _ ?_; clear hK K)
    (apply wpZ_step (i := 6) rfl (by kernel_rfl) rfl; (case h => (intro W hW; obtain ⟨s0, s1, s2⟩ := hW; go_simp; first | done | exact rfl)); (case hQ => (exact fun _ _ _ h => h)); (case hS => assumption); intro K hK; go_simp; refine hK _ _ ?_; clear hK K)
    (apply wpZ_step (i := 7) rfl (by kernel_rfl) rfl; (case h => (intro W hW; obtain ⟨s0, s1, s2⟩ := hW; go_simp; first | done | exact rfl)); (case hQ => (exact fun _ _ _ h => h)); (case hS => assumption); intro K hK; go_simp; refine hK _ _ ?_; clear hK K)
    (apply wpZ_step (i := 8) rfl (by kernel_rfl) rfl; (case h => (intro W hW; obtain ⟨s0, s1, s2⟩ := hW; go_simp; first | done | exact rfl)); (case hQ => (exact fun _ _ _ h => h)); (case hS => assumption); intro K hK; go_simp; refine hK _ _ ?_; clear hK K)
    (apply wpZ_step (i := 9) rfl (by kernel_rfl) rfl; (case h => (intro W hW; obtain ⟨s0, s1, s2⟩ := hW; go_simp; first | done | exact rfl)); (case hQ => (exact fun _ _ _ h => h)); (case hS => assumption); intro K hK; go_simp; refine hK _ _ ?_; clear hK K)
    refine wpZ_nil (by kernel_rfl) ?_
    (try simp only [List.filterMap_nil])
    (try go_simp)
    go_wp2_with fail
    have hS1 : w.drew.drew.cell? ⟨rb, 0, none⟩ = some (.slice (some ⟨g, o, none⟩) L.length c) ∧ w.drew.drew.cell? ⟨rb, 1, none⟩ = some (.int .i64 i) ∧ w.drew.drew.cell? ⟨g, o + i * 4, none⟩ = some (.int .i64 x.kind) := ⟨hw, hi, c0⟩
    refine wp_region_Z (fun W => W.cell? ⟨rb, 0, none⟩ = some (.slice (some ⟨g, o, none⟩) L.length c) ∧ W.cell? ⟨rb, 1, none⟩ = some (.int .i64 i) ∧ W.cell? ⟨g, o + i * 4, none⟩ = some (.int .i64 x.kind)) 12 [] (by kernel_rfl) (by kernel_rfl) ?_
    (apply wpZ_step (i := 0) rfl (by kernel_rfl) rfl; (case h => (intro W hW; obtain ⟨s0, s1, s2⟩ := hW; go_simp; first | done | exact rfl)); (case hQ => (exact fun _ _ _ h => h)); (case hS => assumption); intro K hK; go_simp; refine hK _ _ ?_; clear hK K)
    (apply wpZ_step (i := 1) rfl (by kernel_rfl) rfl; (case h => (intro W hW; obtain ⟨s0, s1, s2⟩ := hW; go_simp; first | done | exact rfl)); (case hQ => (exact fun _ _ _ h => h)); (case hS => assumption); intro K hK; go_simp; refine hK _ _ ?_; clear hK K)
    (apply wpZ_step (i := 2) rfl (by kernel_rfl) rfl; (case h => (intro W hW; obtain ⟨s0, s1, s2⟩ := hW; go_simp; first | done | exact rfl)); (case hQ => (exact fun _ _ _ h => h)); (case hS => assumption); intro K hK; go_simp; refine hK _ _ ?_; clear hK K)
    (apply wpZ_step (i := 3) rfl (by kernel_rfl) rfl; (case h => (intro W hW; obtain ⟨s0, s1, s2⟩ := hW; go_simp; first | done | exact rfl)); (case hQ => (exact fun _ _ _ h => h)); (case hS => assumption); intro K hK; go_simp; refine hK _ _ ?_; clear hK K)
    (apply wpZ_step (i := 4) rfl (by kernel_rfl) rfl; (case h => (intro W hW; obtain ⟨s0, s1, s2⟩ := hW; go_simp; first | done | exact rfl)); (case hQ => (exact fun _ _ _ h => h)); (case hS => assumption); intro K hK; go_simp; refine hK _ _ ?_; clear hK K)
    (apply wpZ_step (i := 5) rfl (by kernel_rfl) rfl; (case h => (intro W hW; obtain ⟨s0, s1, s2⟩ := hW; go_simp; first | done | exact rfl)); (case hQ => (exact fun _ _ _ h => h)); (case hS => assumption); intro K hK; go_simp; refine hK _ _ ?_; clear hK K)
    (apply wpZ_step (i := 6) rfl (by kernel_rfl) rfl; (case h => (intro W hW; obtain ⟨s0, s1, s2⟩ := hW; go_simp; first | done | exact rfl)); (case hQ => (exact fun _ _ _ h => h)); (case hS => assumption); intro K hK; go_simp; refine hK _ _ ?_; clear hK K)
    (apply wpZ_step (i := 7) rfl (by kernel_rfl) rfl; (case h => (intro W hW; obtain ⟨s0, s1, s2⟩ := hW; go_simp; first | done | exact rfl)); (case hQ => (exact fun _ _ _ h => h)); (case hS => assumption); intro K hK; go_simp; refine hK _ _ ?_; clear hK K)
    (apply wpZ_step (i := 8) rfl (by kernel_rfl) rfl; (case h => (intro W hW; obtain ⟨s0, s1, s2⟩ := hW; go_simp; first | done | exact rfl)); (case hQ => (exact fun _ _ _ h => h)); (case hS => assumption); intro K hK; go_simp; refine hK _ _ ?_; clear hK K)
    (apply wpZ_step (i := 9) rfl (by kernel_rfl) rfl; (case h => (intro W hW; obtain ⟨s0, s1, s2⟩ := hW; go_simp; first | done | exact rfl)); (case hQ => (exact fun _ _ _ h => h)); (case hS => assumption); intro K hK; go_simp; refine hK _ _ ?_; clear hK K)
    (apply wpZ_step (i := 10) rfl (by kernel_rfl) rfl; (case h => (intro W hW; obtain ⟨s0, s1, s2⟩ := hW; go_simp; first | done | exact rfl)); (case hQ => (exact fun _ _ _ h => h)); (case hS => assumption); intro K hK; go_simp; refine hK _ _ ?_; clear hK K)
    (apply wpZ_step (i := 11) rfl (by kernel_rfl) rfl; (case h => (intro W hW; obtain ⟨s0, s1, s2⟩ := hW; go_simp; first | done | exact rfl)); (case hQ => (exact fun _ _ _ h => h)); (case hS => assumption); intro K hK; go_simp; refine hK _ _ ?_; clear hK K)
    refine wpZ_nil (by kernel_rfl) ?_
    (try simp only [List.filterMap_nil])
    (try go_simp)
    go_wp2_with fail
    go_ret
    exact ⟨rfl, ((Below.refl _ _).drew).drew⟩
  · obtain rfl : i = L.length := by omega
    rw [kd_none (Nat.le_refl _)]
    clear ws
    go_enter Tryd.func43, Tryd.ntmps43; (try simp only [List.append_eq, List.cons_append, List.nil_append])
    go_wp2_with fail
    have hS0 : w.drew.cell? ⟨rb, 0, none⟩ = some (.slice A L.length c) ∧ w.drew.cell? ⟨rb, 1, none⟩ = some (.int .i64 L.length) := ⟨hw, hi⟩
    refine wp_region_Z (fun W => W.cell? ⟨rb, 0, none⟩ = some (.slice A L.length c) ∧ W.cell? ⟨rb, 1, none⟩ = some (.int .i64 L.length)) 10 [] (by kernel_rfl) (by kernel_rfl) ?_
    (apply wpZ_step (i := 0) rfl (by kernel_rfl) rfl; (case h => (intro W hW; obtain ⟨s0, s1⟩ := hW; go_simp; first | done | exact rfl)); (case hQ => (exact fun _ _ _ h => h)); (case hS => assumption); intro K hK; go_simp; refine hK _ _ ?_; clear hK K)
    (apply wpZ_step (i := 1) rfl (by kernel_rfl) rfl; (case h => (intro W hW; obtain ⟨s0, s1⟩ := hW; go_simp; first | done | exact rfl)); (case hQ => (exact fun _ _ _ h => h)); (case hS => assumption); intro K hK; go_simp; refine hK _ _ ?_; clear hK K)
    (apply wpZ_step (i := 2) rfl (by kernel_rfl) rfl; (case h => (intro W hW; obtain ⟨s0, s1⟩ := hW; go_simp; first | done | exact rfl)); (case hQ => (exact fun _ _ _ h => h)); (case hS => assumption); intro K hK; go_simp; refine hK _ _ ?_; clear hK K)
    (apply wpZ_step (i := 3) rfl (by kernel_rfl) rfl; (case h => (intro W hW; obtain ⟨s0, s1⟩ := hW; go_simp; first | done | exact rfl)); (case hQ => (exact fun _ _ _ h => h)); (case hS => assumption); intro K hK; go_simp; refine hK _ _ ?_; clear hK K)
    (apply wpZ_step (i := 4) rfl (by kernel_rfl) rfl; (case h => (intro W hW; obtain ⟨s0, s1⟩ := hW; go_simp; first | done | exact rfl)); (case hQ => (exact fun _ _ _ h => h)); (case hS => assumption); intro K hK; go_simp; refine hK _ _ ?_; clear hK K)
    (apply wpZ_step (i := 5) rfl (by kernel_rfl) rfl; (case h => (intro W hW; obtain ⟨s0, s1⟩ := hW; go_simp; first | done | exact rfl)); (case hQ => (exact fun _ _ _ h => h)); (case hS => assumption); intro K hK; go_simp; refine hK _ _ ?_; clear hK K)
    (apply wpZ_step (i := 6) rfl (by kernel_rfl) rfl; (case h => (intro W hW; obtain ⟨s0, s1⟩ := hW; go_simp; first | done | exact rfl)); (case hQ => (exact fun _ _ _ h => h)); (case hS => assumption); intro K hK; go_simp; refine hK _ _ ?_; clear hK K)
    (apply wpZ_step (i := 7) rfl (by kernel_rfl) rfl; (case h => (intro W hW; obtain ⟨s0, s1⟩ := hW; go_simp; first | done | exact rfl)); (case hQ => (exact fun _ _ _ h => h)); (case hS => assumption); intro K hK; go_simp; refine hK _ _ ?_; clear hK K)
    (apply wpZ_step (i := 8) rfl (by kernel_rfl) rfl; (case h => (intro W hW; obtain ⟨s0, s1⟩ := hW; go_simp; first | done | exact rfl)); (case hQ => (exact fun _ _ _ h => h)); (case hS => assumption); intro K hK; go_simp; refine hK _ _ ?_; clear hK K)
    (apply wpZ_step (i := 9) rfl (by kernel_rfl) rfl; (case h => (intro W hW; obtain ⟨s0, s1⟩ := hW; go_simp; first | done | exact rfl)); (case hQ => (exact fun _ _ _ h => h)); (case hS => assumption); intro K hK; go_simp; refine hK _ _ ?_; clear hK K)
    refine wpZ_nil (by kernel_rfl) ?_
    (try simp only [List.filterMap_nil])
    (try go_simp)
    go_wp2_with fail
    go_ret
    exact ⟨rfl, (Below.refl _ _).drew⟩
set_option maxRecDepth 100000 in
set_option maxHeartbeats 2000000 in
theorem rat_any (w : World) (rb N i e c : Nat) (A : Option Addr) (L : List WV) (h : RRd w rb N A L i e c) (hiL : i ≤ L.length) : Calls Tryd.prog 27 #[.pointer (some ⟨rb, 0, none⟩)] w fun ε w' => ε = .returned (.int .i64 (atR (L.drop i) e : Nat)) ∧ Below w.heap.size w w' := by
  obtain ⟨hw, hi, he, fz, lt, nle, len, ws⟩ := h
  rcases Nat.lt_or_ge i L.length with hl | hl
  · obtain ⟨x, hx⟩ : ∃ x, L[i]? = some x := ⟨L[i], by simp⟩
    obtain ⟨g, o, rfl, hg, c0, c1, c2, c3⟩ := ws.get hx
    have hat : atR (L.drop i) e = x.at_ := by
      obtain ⟨h1, rfl⟩ := List.getElem?_eq_some_iff.1 hx
      rw [List.drop_eq_getElem_cons h1]; rfl
    rw [hat]
    have i1 : (i : Int) < (L.length : Int) := by omega
    clear ws hx hat
    go_enter Tryd.func27, Tryd.ntmps27; (try simp only [List.append_eq, List.cons_append, List.nil_append])
    go_wp2_with fail
    have hS0 : w.drew.cell? ⟨rb, 0, none⟩ = some (.slice (some ⟨g, o, none⟩) L.length c) ∧ w.drew.cell? ⟨rb, 1, none⟩ = some (.int .i64 i) ∧ w.drew.cell? ⟨g, o + i * 4 + 3, none⟩ = some (.int .i64 x.at_) := ⟨hw, hi, c3⟩
    refine wp_region_Z (fun W => W.cell? ⟨rb, 0, none⟩ = some (.slice (some ⟨g, o, none⟩) L.length c) ∧ W.cell? ⟨rb, 1, none⟩ = some (.int .i64 i) ∧ W.cell? ⟨g, o + i * 4 + 3, none⟩ = some (.int .i64 x.at_)) 10 [] (by kernel_rfl) (by kernel_rfl) ?_
    (apply wpZ_step (i := 0) rfl (by kernel_rfl) rfl; (case h => (intro W hW; obtain ⟨s0, s1, s2⟩ := hW; go_simp; first | done | exact rfl)); (case hQ => (exact fun _ _ _ h => h)); (case hS => assumption); intro K hK; go_simp; refine hK _ _ ?_; clear hK K)
    (apply wpZ_step (i := 1) rfl (by kernel_rfl) rfl; (case h => (intro W hW; obtain ⟨s0, s1, s2⟩ := hW; go_simp; first | done | exact rfl)); (case hQ => (exact fun _ _ _ h => h)); (case hS => assumption); intro K hK; go_simp; refine hK _ _ ?_; clear hK K)
    (apply wpZ_step (i := 2) rfl (by kernel_rfl) rfl; (case h => (intro W hW; obtain ⟨s0, s1, s2⟩ := hW; go_simp; first | done | exact rfl)); (case hQ => (exact fun _ _ _ h => h)); (case hS => assumption); intro K hK; go_simp; refine hK _ _ ?_; clear hK K)
    (apply wpZ_step (i := 3) rfl (by kernel_rfl) rfl; (case h => (intro W hW; obtain ⟨s0, s1, s2⟩ := hW; go_simp; first | done | exact rfl)); (case hQ => (exact fun _ _ _ h => h)); (case hS => assumption); intro K hK; go_simp; refine hK _ _ ?_; clear hK K)
    (apply wpZ_step (i := 4) rfl (by kernel_rfl) rfl; (case h => (intro W hW; obtain ⟨s0, s1, s2⟩ := hW; go_simp; first | done | exact rfl)); (case hQ => (exact fun _ _ _ h => h)); (case hS => assumption); intro K hK; go_simp; refine hK _ _ ?_; clear hK K)
    (apply wpZ_step (i := 5) rfl (by kernel_rfl) rfl; (case h => (intro W hW; obtain ⟨s0, s1, s2⟩ := hW; go_simp; first | done | exact rfl)); (case hQ => (exact fun _ _ _ h => h)); (case hS => assumption); intro K hK; go_simp; refine hK _ _ ?_; clear hK K)
    (apply wpZ_step (i := 6) rfl (by kernel_rfl) rfl; (case h => (intro W hW; obtain ⟨s0, s1, s2⟩ := hW; go_simp; first | done | exact rfl)); (case hQ => (exact fun _ _ _ h => h)); (case hS => assumption); intro K hK; go_simp; refine hK _ _ ?_; clear hK K)
    (apply wpZ_step (i := 7) rfl (by kernel_rfl) rfl; (case h => (intro W hW; obtain ⟨s0, s1, s2⟩ := hW; go_simp; first | done | exact rfl)); (case hQ => (exact fun _ _ _ h => h)); (case hS => assumption); intro K hK; go_simp; refine hK _ _ ?_; clear hK K)
    (apply wpZ_step (i := 8) rfl (by kernel_rfl) rfl; (case h => (intro W hW; obtain ⟨s0, s1, s2⟩ := hW; go_simp; first | done | exact rfl)); (case hQ => (exact fun _ _ _ h => h)); (case hS => assumption); intro K hK; go_simp; refine hK _ _ ?_; clear hK K)
    (apply wpZ_step (i := 9) rfl (by kernel_rfl) rfl; (case h => (intro W hW; obtain ⟨s0, s1, s2⟩ := hW; go_simp; first | done | exact rfl)); (case hQ => (exact fun _ _ _ h => h)); (case hS => assumption); intro K hK; go_simp; refine hK _ _ ?_; clear hK K)
    refine wpZ_nil (by kernel_rfl) ?_
    (try simp only [List.filterMap_nil])
    (try go_simp)
    go_wp2_with fail
    have hS1 : w.drew.drew.cell? ⟨rb, 0, none⟩ = some (.slice (some ⟨g, o, none⟩) L.length c) ∧ w.drew.drew.cell? ⟨rb, 1, none⟩ = some (.int .i64 i) ∧ w.drew.drew.cell? ⟨g, o + i * 4 + 3, none⟩ = some (.int .i64 x.at_) := ⟨hw, hi, c3⟩
    refine wp_region_Z (fun W => W.cell? ⟨rb, 0, none⟩ = some (.slice (some ⟨g, o, none⟩) L.length c) ∧ W.cell? ⟨rb, 1, none⟩ = some (.int .i64 i) ∧ W.cell? ⟨g, o + i * 4 + 3, none⟩ = some (.int .i64 x.at_)) 12 [] (by kernel_rfl) (by kernel_rfl) ?_
    (apply wpZ_step (i := 0) rfl (by kernel_rfl) rfl; (case h => (intro W hW; obtain ⟨s0, s1, s2⟩ := hW; go_simp; first | done | exact rfl)); (case hQ => (exact fun _ _ _ h => h)); (case hS => assumption); intro K hK; go_simp; refine hK _ _ ?_; clear hK K)
    (apply wpZ_step (i := 1) rfl (by kernel_rfl) rfl; (case h => (intro W hW; obtain ⟨s0, s1, s2⟩ := hW; go_simp; first | done | exact rfl)); (case hQ => (exact fun _ _ _ h => h)); (case hS => assumption); intro K hK; go_simp; refine hK _ _ ?_; clear hK K)
    (apply wpZ_step (i := 2) rfl (by kernel_rfl) rfl; (case h => (intro W hW; obtain ⟨s0, s1, s2⟩ := hW; go_simp; first | done | exact rfl)); (case hQ => (exact fun _ _ _ h => h)); (case hS => assumption); intro K hK; go_simp; refine hK _ _ ?_; clear hK K)
    (apply wpZ_step (i := 3) rfl (by kernel_rfl) rfl; (case h => (intro W hW; obtain ⟨s0, s1, s2⟩ := hW; go_simp; first | done | exact rfl)); (case hQ => (exact fun _ _ _ h => h)); (case hS => assumption); intro K hK; go_simp; refine hK _ _ ?_; clear hK K)
    (apply wpZ_step (i := 4) rfl (by kernel_rfl) rfl; (case h => (intro W hW; obtain ⟨s0, s1, s2⟩ := hW; go_simp; first | done | exact rfl)); (case hQ => (exact fun _ _ _ h => h)); (case hS => assumption); intro K hK; go_simp; refine hK _ _ ?_; clear hK K)
    (apply wpZ_step (i := 5) rfl (by kernel_rfl) rfl; (case h => (intro W hW; obtain ⟨s0, s1, s2⟩ := hW; go_simp; first | done | exact rfl)); (case hQ => (exact fun _ _ _ h => h)); (case hS => assumption); intro K hK; go_simp; refine hK _ _ ?_; clear hK K)
    (apply wpZ_step (i := 6) rfl (by kernel_rfl) rfl; (case h => (intro W hW; obtain ⟨s0, s1, s2⟩ := hW; go_simp; first | done | exact rfl)); (case hQ => (exact fun _ _ _ h => h)); (case hS => assumption); intro K hK; go_simp; refine hK _ _ ?_; clear hK K)
    (apply wpZ_step (i := 7) rfl (by kernel_rfl) rfl; (case h => (intro W hW; obtain ⟨s0, s1, s2⟩ := hW; go_simp; first | done | exact rfl)); (case hQ => (exact fun _ _ _ h => h)); (case hS => assumption); intro K hK; go_simp; refine hK _ _ ?_; clear hK K)
    (apply wpZ_step (i := 8) rfl (by kernel_rfl) rfl; (case h => (intro W hW; obtain ⟨s0, s1, s2⟩ := hW; go_simp; first | done | exact rfl)); (case hQ => (exact fun _ _ _ h => h)); (case hS => assumption); intro K hK; go_simp; refine hK _ _ ?_; clear hK K)
    (apply wpZ_step (i := 9) rfl (by kernel_rfl) rfl; (case h => (intro W hW; obtain ⟨s0, s1, s2⟩ := hW; go_simp; first | done | exact rfl)); (case hQ => (exact fun _ _ _ h => h)); (case hS => assumption); intro K hK; go_simp; refine hK _ _ ?_; clear hK K)
    (apply wpZ_step (i := 10) rfl (by kernel_rfl) rfl; (case h => (intro W hW; obtain ⟨s0, s1, s2⟩ := hW; go_simp; first | done | exact rfl)); (case hQ => (exact fun _ _ _ h => h)); (case hS => assumption); intro K hK; go_simp; refine hK _ _ ?_; clear hK K)
    (apply wpZ_step (i := 11) rfl (by kernel_rfl) rfl; (case h => (intro W hW; obtain ⟨s0, s1, s2⟩ := hW; go_simp; first | done | exact rfl)); (case hQ => (exact fun _ _ _ h => h)); (case hS => assumption); intro K hK; go_simp; refine hK _ _ ?_; clear hK K)
    refine wpZ_nil (by kernel_rfl) ?_
    (try simp only [List.filterMap_nil])
    (try go_simp)
    go_wp2_with fail
    go_ret
    exact ⟨rfl, ((Below.refl _ _).drew).drew⟩
  · obtain rfl : i = L.length := by omega
    have hat : atR (L.drop L.length) e = e := by rw [List.drop_length]; rfl
    rw [hat]
    clear ws hat
    go_enter Tryd.func27, Tryd.ntmps27; (try simp only [List.append_eq, List.cons_append, List.nil_append])
    go_wp2_with fail
    have hS0 : w.drew.cell? ⟨rb, 0, none⟩ = some (.slice A L.length c) ∧ w.drew.cell? ⟨rb, 1, none⟩ = some (.int .i64 L.length) := ⟨hw, hi⟩
    refine wp_region_Z (fun W => W.cell? ⟨rb, 0, none⟩ = some (.slice A L.length c) ∧ W.cell? ⟨rb, 1, none⟩ = some (.int .i64 L.length)) 10 [] (by kernel_rfl) (by kernel_rfl) ?_
    (apply wpZ_step (i := 0) rfl (by kernel_rfl) rfl; (case h => (intro W hW; obtain ⟨s0, s1⟩ := hW; go_simp; first | done | exact rfl)); (case hQ => (exact fun _ _ _ h => h)); (case hS => assumption); intro K hK; go_simp; refine hK _ _ ?_; clear hK K)
    (apply wpZ_step (i := 1) rfl (by kernel_rfl) rfl; (case h => (intro W hW; obtain ⟨s0, s1⟩ := hW; go_simp; first | done | exact rfl)); (case hQ => (exact fun _ _ _ h => h)); (case hS => assumption); intro K hK; go_simp; refine hK _ _ ?_; clear hK K)
    (apply wpZ_step (i := 2) rfl (by kernel_rfl) rfl; (case h => (intro W hW; obtain ⟨s0, s1⟩ := hW; go_simp; first | done | exact rfl)); (case hQ => (exact fun _ _ _ h => h)); (case hS => assumption); intro K hK; go_simp; refine hK _ _ ?_; clear hK K)
    (apply wpZ_step (i := 3) rfl (by kernel_rfl) rfl; (case h => (intro W hW; obtain ⟨s0, s1⟩ := hW; go_simp; first | done | exact rfl)); (case hQ => (exact fun _ _ _ h => h)); (case hS => assumption); intro K hK; go_simp; refine hK _ _ ?_; clear hK K)
    (apply wpZ_step (i := 4) rfl (by kernel_rfl) rfl; (case h => (intro W hW; obtain ⟨s0, s1⟩ := hW; go_simp; first | done | exact rfl)); (case hQ => (exact fun _ _ _ h => h)); (case hS => assumption); intro K hK; go_simp; refine hK _ _ ?_; clear hK K)
    (apply wpZ_step (i := 5) rfl (by kernel_rfl) rfl; (case h => (intro W hW; obtain ⟨s0, s1⟩ := hW; go_simp; first | done | exact rfl)); (case hQ => (exact fun _ _ _ h => h)); (case hS => assumption); intro K hK; go_simp; refine hK _ _ ?_; clear hK K)
    (apply wpZ_step (i := 6) rfl (by kernel_rfl) rfl; (case h => (intro W hW; obtain ⟨s0, s1⟩ := hW; go_simp; first | done | exact rfl)); (case hQ => (exact fun _ _ _ h => h)); (case hS => assumption); intro K hK; go_simp; refine hK _ _ ?_; clear hK K)
    (apply wpZ_step (i := 7) rfl (by kernel_rfl) rfl; (case h => (intro W hW; obtain ⟨s0, s1⟩ := hW; go_simp; first | done | exact rfl)); (case hQ => (exact fun _ _ _ h => h)); (case hS => assumption); intro K hK; go_simp; refine hK _ _ ?_; clear hK K)
    (apply wpZ_step (i := 8) rfl (by kernel_rfl) rfl; (case h => (intro W hW; obtain ⟨s0, s1⟩ := hW; go_simp; first | done | exact rfl)); (case hQ => (exact fun _ _ _ h => h)); (case hS => assumption); intro K hK; go_simp; refine hK _ _ ?_; clear hK K)
    (apply wpZ_step (i := 9) rfl (by kernel_rfl) rfl; (case h => (intro W hW; obtain ⟨s0, s1⟩ := hW; go_simp; first | done | exact rfl)); (case hQ => (exact fun _ _ _ h => h)); (case hS => assumption); intro K hK; go_simp; refine hK _ _ ?_; clear hK K)
    refine wpZ_nil (by kernel_rfl) ?_
    (try simp only [List.filterMap_nil])
    (try go_simp)
    go_wp2_with fail
    go_ret
    exact ⟨rfl, (Below.refl _ _).drew⟩
end Go.Proofs.YteondblmcooklaaDoor
