/- The contracts of support.copied, accepted, Start, budget, Hold, Payable, Impulse. -/
import Derived.Test.YtklkhnhieihfoaaSupA
namespace Go.Proofs.Ytklkhnhieihfoaa
open Go Go.RowKit
set_option linter.unusedVariables false
structure Pl where
  (p1 p2 v1 v2 h1 h2 f1 f2 b1 b2 : Int)
  (ks : List Int)
  (ns : List V2)
  (t d : Bool)
def plV (P : Pl) (K N : Value) : Value := .agg #[.int .i64 P.p1, .int .i64 P.p2, .int .i64 P.v1, .int .i64 P.v2, .int .i64 P.h1, .int .i64 P.h2, .int .i64 P.f1, .int .i64 P.f2, .int .i64 P.b1, .int .i64 P.b2, K, N, .bool P.t, .bool P.d]
def zeroPl : Pl := ⟨0, 0, 0, 0, 0, 0, 0, 0, 0, 0, [], [], false, false⟩
def PlAt (w : World) (v : Value) (P : Pl) : Prop := ∃ A c B e, v = plV P (.slice A P.ks.length c) (.slice B P.ns.length e) ∧ IAt w A P.ks ∧ VAt w B P.ns
theorem PlAt.below {w w1 : World} {v : Value} {P : Pl} {B : Nat} (h : PlAt w v P) (hb : Below B w w1) (hB : w.heap.size ≤ B) : PlAt w1 v P := by
  obtain ⟨A, c, B', e, hv, h1, h2⟩ := h
  exact ⟨A, c, B', e, hv, h1.below hb hB, h2.below hb hB⟩
theorem PlAt.zero (w : World) : PlAt w (plV zeroPl (.slice none 0 0) (.slice none 0 0)) zeroPl := ⟨none, 0, none, 0, rfl, fun k x h => by simp [zeroPl] at h, VAt.nil _ _⟩
def PlOut (P : Pl) (w : World) (e : Ending) (w' : World) : Prop := Below w.heap.size w w' ∧ ∃ v, e = .returned v ∧ PlAt w' v P
def OwnK (w : World) (base : Nat) (A : Option Addr) (c : Nat) (l : List Int) : Prop := w.ownsRow base 3 1 (.slice A l.length c) l.length (l.map (Value.int .i64))
def OwnN (w : World) (base : Nat) (A : Option Addr) (c : Nat) (l : List V2) : Prop := w.ownsRow base 23 2 (.slice A l.length c) l.length (flatV l)
theorem own_weaker {w : World} {base base' size n : Nat} {e : TypeId} {v : Value} {xs : List Value} (h : w.ownsRow base e size v n xs) (hb : base' ≤ base) : w.ownsRow base' e size v n xs := by
  obtain ⟨h1, h2⟩ := h
  rcases h2 with h2 | ⟨g, cap, cur, hv, hg, r⟩
  · exact ⟨h1, .inl h2⟩
  · exact ⟨h1, .inr ⟨g, cap, cur, hv, Nat.le_trans hb hg, r⟩⟩
theorem own_setlow {w : World} {base size n : Nat} {e : TypeId} {v : Value} {xs : List Value} (h : w.ownsRow base e size v n xs) {p : Addr} (hp : p.block < base) (u : Value) : (w.setCell p u).ownsRow base e size v n xs := by
  obtain ⟨h1, h2⟩ := h
  rcases h2 with h2 | ⟨g, cap, cur, hv, hg, hh, r⟩
  · exact ⟨h1, .inl h2⟩
  · refine ⟨h1, .inr ⟨g, cap, cur, hv, hg, ?_, r⟩⟩
    rw [Below.heap_setCell _ _ _ _ (by omega)]
    exact hh
theorem OwnK.cl (base : Nat) (A : Option Addr) (c : Nat) (l : List Int) : Cl (fun w => OwnK w base A c l) := fun _ _ h hb => own_below h hb (Nat.le_refl _)
theorem OwnN.cl (base : Nat) (A : Option Addr) (c : Nat) (l : List V2) : Cl (fun w => OwnN w base A c l) := fun _ _ h hb => own_below h hb (Nat.le_refl _)
/-- A copied plan: its rows are new. -/
def CpOut (P : Pl) (w : World) (e : Ending) (w' : World) : Prop := Below w.heap.size w w' ∧ ∃ A c B d, e = .returned (plV P (.slice A P.ks.length c) (.slice B P.ns.length d)) ∧ OwnK w' w.heap.size A c P.ks ∧ OwnN w' w.heap.size B d P.ns
theorem CpOut.pl {P : Pl} {w w' : World} {e : Ending} (h : CpOut P w e w') : PlOut P w e w' := by
  obtain ⟨hb, A, c, B, d, he, h1, h2⟩ := h
  exact ⟨hb, _, he, A, c, B, d, rfl, own_iat h1, own_vat h2⟩
set_option maxRecDepth 100000 in
set_option maxHeartbeats 4000000 in
theorem copied_any (P : Pl) (v : Value) (w : World) (h : PlAt w v P) (hk : P.ks.length ≤ 1000) (hn : P.ns.length ≤ 1000) :
    Calls Try.prog 58 #[v] w (CpOut P w) := by
  obtain ⟨A, c, B, e, rfl, hA, hB⟩ := h
  obtain ⟨p1, p2, v1, v2, h1, h2, f1, f2, b1, b2, ks, ns, t, d⟩ := P
  simp only [plV] at *
  have hci := fun w' (h : Below w.heap.size w w') => clonei_any ks A c w' hk (hA.below h (Nat.le_refl _))
  have hcv := fun w' (h : Below w.heap.size w w') => clonev_any ns B e w' hn (hB.below h (Nat.le_refl _))
  have HCI := Lib.hid hci
  have HCV := Lib.hid hcv
  clear hci hcv hA hB
  go_enter Try.func58, Try.ntmps58; (try simp only [List.append_eq, List.cons_append, List.nil_append])
  go_wp2_with fail
  -- own blocks: w.heap.size:14, w.heap.size + 1:14
  (refine pin_wp (N := _) (Nat.le_refl _) (fun w1 hb_w1 hz_w1 => ?_); (try simp at hz_w1); (with_reducible apply cel14 (b := w.heap.size) hb_w1); (focus ((try simp) <;> omega)); (focus omega); (focus (go_simp; try exact rfl)); (focus (go_simp; try exact rfl)); (focus (go_simp; try exact rfl)); (focus (go_simp; try exact rfl)); (focus (go_simp; try exact rfl)); (focus (go_simp; try exact rfl)); (focus (go_simp; try exact rfl)); (focus (go_simp; try exact rfl)); (focus (go_simp; try exact rfl)); (focus (go_simp; try exact rfl)); (focus (go_simp; try exact rfl)); (focus (go_simp; try exact rfl)); (focus (go_simp; try exact rfl)); (focus (go_simp; try exact rfl)); (focus (intro o; go_simp)); intro cc cc cc cc cc cc cc cc cc cc cc cc cc cc fz hl; (with_reducible apply cel14 (b := w.heap.size + 1) hb_w1); (focus ((try simp) <;> omega)); (focus omega); (focus (go_simp; try exact rfl)); (focus (go_simp; try exact rfl)); (focus (go_simp; try exact rfl)); (focus (go_simp; try exact rfl)); (focus (go_simp; try exact rfl)); (focus (go_simp; try exact rfl)); (focus (go_simp; try exact rfl)); (focus (go_simp; try exact rfl)); (focus (go_simp; try exact rfl)); (focus (go_simp; try exact rfl)); (focus (go_simp; try exact rfl)); (focus (go_simp; try exact rfl)); (focus (go_simp; try exact rfl)); (focus (go_simp; try exact rfl)); (focus (intro o; go_simp)); intro cc cc cc cc cc cc cc cc cc cc cc cc cc cc fz hl); refine wp_region_float w1.heap.size 7 (Nat.le_refl _) (fun _ => True) trivial Cl.tt (by kernel_rfl) (by simp) ?_
  have HB1 := Lib.hid (show Below w.heap.size w w1 by ((with_reducible (repeat (first | exact bR _ _ | refine bS ?_ ?_ _ | refine bA ?_ ?_ _ | refine bD ?_ | refine bT ?_ (by assumption) ?_ | refine bO (by assumption) ?_ ?_))) <;> (first | omega | (simp; done) | (simp <;> omega))))
  have hz1 : w.heap.size + 1 + 1 ≤ w1.heap.size := by omega
  clear hb_w1
  refine wpI_start [0, 1] ?_; (iterate 2 (first | (refine wpI_off rfl (by kernel_rfl) rfl (fun K hK => ?_); go_simp; refine hK _ ?_; clear hK K) | ((first | apply wpI_step rfl (by kernel_rfl) rfl | apply wpI_on rfl (by kernel_rfl) rfl); (focus (intro W' hS; have hcS := hS.cells.1; have hfS := hS.cells.2; go_simp; (first | done | exact rfl | exact ⟨rfl, Below.refl _ _⟩ | (go_simp; first | done | exact rfl | exact ⟨rfl, Below.refl _ _⟩)))); intro K hK; go_simp; (try go_bits); refine hK _ ?_; clear hK K))); refine wpI_nil ?_
  refine wpI_start [3, 4] ?_; (iterate 2 (first | (refine wpI_off rfl (by kernel_rfl) rfl (fun K hK => ?_); go_simp; refine hK _ ?_; clear hK K) | ((first | apply wpI_step rfl (by kernel_rfl) rfl | apply wpI_on rfl (by kernel_rfl) rfl); (focus (intro W' hS; have hcS := hS.cells.1; have hfS := hS.cells.2; go_simp; (first | done | exact rfl | exact ⟨rfl, Below.refl _ _⟩ | (go_simp; first | done | exact rfl | exact ⟨rfl, Below.refl _ _⟩)))); intro K hK; go_simp; (try go_bits); refine hK _ ?_; clear hK K))); refine wpI_nil ?_
  apply wpF_call (i := 2) rfl (by kernel_rfl) (by kernel_rfl); intro W hF hS; have hcS := hS.1.cells.1; have hfS := hS.1.cells.2; go_simp; (go_at_call 106; refine (HCI.out _ (HB1.out.trans (hS.1.2.mono (by omega)))).mono ?_; rintro e w2 ⟨hb_w2, A2, c2, rfl, ho2⟩; refine XPost.mk _ (fun W => OwnK W w1.heap.size A2 c2 ks) hb_w2 (own_weaker ho2 hS.1.1) (OwnK.cl _ _ _ _) ?_); clear hb_w2 hcS hfS hS hF
  intro K hK; go_simp; (try go_bits); refine hK _ ?_; clear hK K
  clear ho2
  refine wpI_start [6] ?_; (iterate 1 (first | (refine wpI_off rfl (by kernel_rfl) rfl (fun K hK => ?_); go_simp; refine hK _ ?_; clear hK K) | ((first | apply wpI_step rfl (by kernel_rfl) rfl | apply wpI_on rfl (by kernel_rfl) rfl); (focus (intro W' hS; have hcS := hS.cells.1; have hfS := hS.cells.2; go_simp; (first | done | exact rfl | exact ⟨rfl, Below.refl _ _⟩ | (go_simp; first | done | exact rfl | exact ⟨rfl, Below.refl _ _⟩)))); intro K hK; go_simp; (try go_bits); refine hK _ ?_; clear hK K))); refine wpI_nil ?_
  apply wpF_call (i := 5) rfl (by kernel_rfl) (by kernel_rfl); intro W hF hS; have hcS := hS.1.cells.1; have hfS := hS.1.cells.2; go_simp; (go_at_call 107; refine (HCV.out _ (HB1.out.trans (hS.1.2.mono (by omega)))).mono ?_; rintro e w3 ⟨hb_w3, A3, c3, rfl, ho3⟩; refine XPost.mk _ (fun W => OwnN W w1.heap.size A3 c3 ns) hb_w3 (own_weaker ho3 hS.1.1) (OwnN.cl _ _ _ _) ?_); clear hb_w3 hcS hfS hS hF
  intro K hK; go_simp; (try go_bits); refine hK _ ?_; clear hK K
  clear ho3
  refine wpF_done (by kernel_rfl) ?_
  intro w4 hF_w4 hSG
  have hz_w4 := hSG.1.1
  have hb_w4 := hSG.1.2
  clear hSG
  (with_reducible apply cel14 (b := w.heap.size) hb_w4); (focus ((try simp) <;> omega)); (focus omega); (focus (go_simp; try exact rfl)); (focus (go_simp; try exact rfl)); (focus (go_simp; try exact rfl)); (focus (go_simp; try exact rfl)); (focus (go_simp; try exact rfl)); (focus (go_simp; try exact rfl)); (focus (go_simp; try exact rfl)); (focus (go_simp; try exact rfl)); (focus (go_simp; try exact rfl)); (focus (go_simp; try exact rfl)); (focus (go_simp; try exact rfl)); (focus (go_simp; try exact rfl)); (focus (go_simp; try exact rfl)); (focus (go_simp; try exact rfl)); (focus (intro o; go_simp)); intro cc cc cc cc cc cc cc cc cc cc cc cc cc cc fz hl; (with_reducible apply cel14 (b := w.heap.size + 1) hb_w4); (focus ((try simp) <;> omega)); (focus omega); (focus (go_simp; try exact rfl)); (focus (go_simp; try exact rfl)); (focus (go_simp; try exact rfl)); (focus (go_simp; try exact rfl)); (focus (go_simp; try exact rfl)); (focus (go_simp; try exact rfl)); (focus (go_simp; try exact rfl)); (focus (go_simp; try exact rfl)); (focus (go_simp; try exact rfl)); (focus (go_simp; try exact rfl)); (focus (go_simp; try exact rfl)); (focus (go_simp; try exact rfl)); (focus (go_simp; try exact rfl)); (focus (go_simp; try exact rfl)); (focus (intro o; go_simp)); intro cc cc cc cc cc cc cc cc cc cc cc cc cc cc fz hl
  (try simp only [List.drop_succ_cons, List.drop_zero])
  have HK4 := Lib.hid (show OwnK w4 w1.heap.size A2 c2 ks from hF_w4.1)
  have HN4 := Lib.hid (show OwnN w4 w1.heap.size A3 c3 ns from hF_w4.2)
  have HB4 := Lib.hid (show Below w.heap.size w w4 from HB1.out.trans (hb_w4.mono (by omega)))
  clear hF_w4 hb_w4
  go_wp2_with fail
  refine bodyPost_ret (v := .agg #[.int .i64 p1, .int .i64 p2, .int .i64 v1, .int .i64 v2, .int .i64 h1, .int .i64 h2, .int .i64 f1, .int .i64 f2, .int .i64 b1, .int .i64 b2, .slice A2 ks.length c2, .slice A3 ns.length c3, .bool t, .bool d]) (by simp only [results, Try.results58]; go_simp) rfl ⟨?_, ?_⟩
  · have hB := HB4.out; clear HB4; ((with_reducible (repeat (first | exact bR _ _ | refine bS ?_ ?_ _ | refine bA ?_ ?_ _ | refine bD ?_ | refine bT ?_ (by assumption) ?_ | refine bO (by assumption) ?_ ?_))) <;> (first | omega | (simp; done) | (simp <;> omega)))
  · refine ⟨A2, c2, A3, c3, rfl, own_weaker ?_ (show w.heap.size ≤ w1.heap.size by omega), own_weaker ?_ (show w.heap.size ≤ w1.heap.size by omega)⟩
    · have hk4 := HK4.out
      unfold OwnK at hk4
      (repeat (first | (with_reducible exact hk4) | (with_reducible refine own_setlow ?_ ?_ _))) <;> first | omega | (simp; omega) | (simp <;> omega)
    · have hn4 := HN4.out
      unfold OwnN at hn4
      (repeat (first | (with_reducible exact hn4) | (with_reducible refine own_setlow ?_ ?_ _))) <;> first | omega | (simp; omega) | (simp <;> omega)
end Go.Proofs.Ytklkhnhieihfoaa
