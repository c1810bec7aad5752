/- Press: plain; slices.Contains. -/
import Derived.Test.YtklkhnhieihfoaaSupD
namespace Go.Proofs.Ytklkhnhieihfoaa
open Go Go.RowKit
set_option linter.unusedVariables false
def addS (s : List Int × List V2) (x : Int × V2) : List Int × List V2 := if s.1.contains x.1 = true then s else (s.1 ++ [x.1], s.2 ++ [x.2])
def addR (P : Pl) (l : List (Int × V2)) : List Int × List V2 := l.foldl addS (P.ks, P.ns)
theorem addR_zero (P : Pl) (l : List (Int × V2)) : addR P (l.take 0) = (P.ks, P.ns) := rfl
theorem addR_step (P : Pl) {l : List (Int × V2)} {k : Nat} {x : Int × V2} (h : l[k]? = some x) : addR P (l.take (k + 1)) = addS (addR P (l.take k)) x := by
  unfold addR
  rw [List.take_add_one, h, List.foldl_append]
  rfl
theorem zip_get {a : List Int} {b : List V2} {k : Nat} {x : Int} {y : V2} (h1 : a[k]? = some x) (h2 : b[k]? = some y) : (a.zip b)[k]? = some (x, y) := by
  rw [List.getElem?_zip_eq_some]; exact ⟨h1, h2⟩
theorem addS_len (s : List Int × List V2) (x : Int × V2) : s.1.length ≤ (addS s x).1.length ∧ (addS s x).1.length ≤ s.1.length + 1 ∧ s.2.length ≤ (addS s x).2.length ∧ (addS s x).2.length ≤ s.2.length + 1 := by
  unfold addS
  split
  · omega
  · simp
theorem addL_len (l : List (Int × V2)) : ∀ s : List Int × List V2, s.1.length ≤ (l.foldl addS s).1.length ∧ (l.foldl addS s).1.length ≤ s.1.length + l.length ∧ s.2.length ≤ (l.foldl addS s).2.length ∧ (l.foldl addS s).2.length ≤ s.2.length + l.length := by
  induction l with
  | nil => intro s; simp
  | cons x l ih =>
    intro s
    have h := ih (addS s x)
    have h2 := addS_len s x
    simp only [List.foldl_cons, List.length_cons]
    omega
theorem addR_len (P : Pl) (l : List (Int × V2)) (k : Nat) : (addR P (l.take k)).1.length ≤ P.ks.length + k ∧ (addR P (l.take k)).2.length ≤ P.ns.length + k := by
  have h := addL_len (l.take k) (P.ks, P.ns)
  have : (l.take k).length ≤ k := List.length_take_le _ _
  unfold addR
  simp only at h
  omega
def payR (Q : Pl) : Pl := if budR Q < 0 then { Q with v1 := 0, v2 := 0, h1 := 0, h2 := 0, d := true } else Q
def withR (P : Pl) (s : List Int × List V2) : Pl := { P with ks := s.1, ns := s.2 }
def liftP (Q : Pl) : Pl := { Q with v1 := (liftR (Q.b1, Q.b2) Q.ns).1, v2 := (liftR (Q.b1, Q.b2) Q.ns).2, h1 := (liftR (Q.f1, Q.f2) Q.ns).1, h2 := (liftR (Q.f1, Q.f2) Q.ns).2 }
def turnP (Q : Pl) (n : V2) : Pl := { Q with v1 := (turnR Q.v1 Q.v2 n.1 n.2).1, v2 := (turnR Q.v1 Q.v2 n.1 n.2).2.1, t := true }
def pressR (P : Pl) (keys : List Int) (norms : List V2) : Pl :=
  if fitB P = true ∧ norms.all (nearB 2097152) = true then
    if P.d = true ∨ keys.length = 0 ∨ keys.length ≠ norms.length then P
    else if P.ks.length < (addR P (keys.zip norms)).1.length then payR (liftP (withR P (addR P (keys.zip norms))))
    else if keys.length = 1 ∧ P.t = false then
      if (turnR P.v1 P.v2 (norms.headD (0, 0)).1 (norms.headD (0, 0)).2).2.2 = true then payR (turnP (withR P (addR P (keys.zip norms))) (norms.headD (0, 0)))
      else holdR (withR P (addR P (keys.zip norms)))
    else holdR (withR P (addR P (keys.zip norms)))
  else zeroPl
theorem contains_any (l : List Int) (A : Option Addr) (c : Nat) (x : Int) (w : World) (hl : l.length ≤ 100000) (hV : IAt w A l) :
    Calls Try.prog 59 #[.slice A l.length c, .int .i64 x] w fun e w' => e = .returned (.bool (l.contains x)) ∧ Below w.heap.size w w' := by
  rcases Nat.eq_zero_or_pos l.length with h0 | h0
  · obtain rfl := List.length_eq_zero_iff.1 h0
    exact (Try.slices_Contains_int_empty A c x w).mono fun e w' ⟨he, hw⟩ => by subst hw; exact ⟨he, Below.refl _ _⟩
  · obtain ⟨x0, hx0⟩ : ∃ x, l[0]? = some x := ⟨l[0], by simp⟩
    obtain ⟨g, o, rfl, _, _⟩ := hV 0 x0 hx0
    refine (Try.slices_Contains_int g o l.length c l x w (Nat.le_refl _) (by omega) (fun j hj => ?_)).mono fun e w' ⟨he, hw⟩ => ?_
    · obtain ⟨y, hy⟩ : ∃ y, l[j]? = some y := ⟨l[j], by simp⟩
      obtain ⟨g', o', hA', _, h1⟩ := hV j y hy
      have e := Option.some.inj hA'
      simp only [Addr.mk.injEq, and_true] at e
      obtain ⟨rfl, rfl⟩ := e
      rw [h1, List.getD_eq_getElem?_getD, hy]; rfl
    · subst hw
      rw [List.take_length] at he
      exact ⟨he, Below.refl _ _⟩
/-- The box of a plan. -/
def XB (W : World) (b : Nat) (P : Pl) (K N : Value) : Prop := b < W.heap.size ∧ (∀ o, W.frozen? ⟨b, o, none⟩ = false) ∧ W.cell? ⟨b, 0, none⟩ = some (.int .i64 P.p1) ∧ W.cell? ⟨b, 1, none⟩ = some (.int .i64 P.p2) ∧ W.cell? ⟨b, 2, none⟩ = some (.int .i64 P.v1) ∧ W.cell? ⟨b, 3, none⟩ = some (.int .i64 P.v2) ∧ W.cell? ⟨b, 4, none⟩ = some (.int .i64 P.h1) ∧ W.cell? ⟨b, 5, none⟩ = some (.int .i64 P.h2) ∧ W.cell? ⟨b, 6, none⟩ = some (.int .i64 P.f1) ∧ W.cell? ⟨b, 7, none⟩ = some (.int .i64 P.f2) ∧ W.cell? ⟨b, 8, none⟩ = some (.int .i64 P.b1) ∧ W.cell? ⟨b, 9, none⟩ = some (.int .i64 P.b2) ∧ W.cell? ⟨b, 10, none⟩ = some K ∧ W.cell? ⟨b, 11, none⟩ = some N ∧ W.cell? ⟨b, 12, none⟩ = some (.bool P.t) ∧ W.cell? ⟨b, 13, none⟩ = some (.bool P.d)
theorem XB.below {W W' : World} {b B : Nat} {P : Pl} {K N : Value} (h : XB W b P K N) (hb : Below B W W') (hB : b < B) : XB W' b P K N := by
  obtain ⟨h0, hf, a0, a1, a2, a3, a4, a5, a6, a7, a8, a9, a10, a11, a12, a13⟩ := h
  exact ⟨Nat.lt_of_lt_of_le h0 hb.size, fun o => (hb.frozen (p := ⟨b, o, none⟩) hB).trans (hf o), (hb.cell (p := ⟨b, 0, none⟩) hB).trans a0, (hb.cell (p := ⟨b, 1, none⟩) hB).trans a1, (hb.cell (p := ⟨b, 2, none⟩) hB).trans a2, (hb.cell (p := ⟨b, 3, none⟩) hB).trans a3, (hb.cell (p := ⟨b, 4, none⟩) hB).trans a4, (hb.cell (p := ⟨b, 5, none⟩) hB).trans a5, (hb.cell (p := ⟨b, 6, none⟩) hB).trans a6, (hb.cell (p := ⟨b, 7, none⟩) hB).trans a7, (hb.cell (p := ⟨b, 8, none⟩) hB).trans a8, (hb.cell (p := ⟨b, 9, none⟩) hB).trans a9, (hb.cell (p := ⟨b, 10, none⟩) hB).trans a10, (hb.cell (p := ⟨b, 11, none⟩) hB).trans a11, (hb.cell (p := ⟨b, 12, none⟩) hB).trans a12, (hb.cell (p := ⟨b, 13, none⟩) hB).trans a13⟩
theorem OwnK.low {W : World} {base : Nat} {A : Option Addr} {c : Nat} {l : List Int} (h : OwnK W base A c l) {p : Addr} (hp : p.block < base) (u : Value) : OwnK (W.setCell p u) base A c l := own_setlow h hp u
theorem OwnN.low {W : World} {base : Nat} {A : Option Addr} {c : Nat} {l : List V2} (h : OwnN W base A c l) {p : Addr} (hp : p.block < base) (u : Value) : OwnN (W.setCell p u) base A c l := own_setlow h hp u
theorem OwnK.bel {W W' : World} {base B : Nat} {A : Option Addr} {c : Nat} {l : List Int} (h : OwnK W base A c l) (hb : Below B W W') (hB : W.heap.size ≤ B) : OwnK W' base A c l := own_below h hb hB
theorem OwnN.bel {W W' : World} {base B : Nat} {A : Option Addr} {c : Nat} {l : List V2} (h : OwnN W base A c l) (hb : Below B W W') (hB : W.heap.size ≤ B) : OwnN W' base A c l := own_below h hb hB
theorem OwnK.alloc {W : World} {base : Nat} {A : Option Addr} {c : Nat} {l : List Int} (h : OwnK W base A c l) (o : Obj) : OwnK (W.alloc o) base A c l := World.ownsRow.alloc h o
theorem OwnN.alloc {W : World} {base : Nat} {A : Option Addr} {c : Nat} {l : List V2} (h : OwnN W base A c l) (o : Obj) : OwnN (W.alloc o) base A c l := World.ownsRow.alloc h o
theorem OwnK.weaker {W : World} {base base' : Nat} {A : Option Addr} {c : Nat} {l : List Int} (h : OwnK W base A c l) (hb : base' ≤ base) : OwnK W base' A c l := own_weaker h hb
theorem OwnN.weaker {W : World} {base base' : Nat} {A : Option Addr} {c : Nat} {l : List V2} (h : OwnN W base A c l) (hb : base' ≤ base) : OwnN W base' A c l := own_weaker h hb
theorem OwnK.iat {W : World} {base : Nat} {A : Option Addr} {c : Nat} {l : List Int} (h : OwnK W base A c l) : IAt W A l := own_iat h
theorem OwnN.vat {W : World} {base : Nat} {A : Option Addr} {c : Nat} {l : List V2} (h : OwnN W base A c l) : VAt W A l := own_vat h
theorem addL_all (l : List (Int × V2)) : ∀ s : List Int × List V2, s.2.all (nearB 2097152) = true → (∀ x ∈ l, nearB 2097152 x.2 = true) → (l.foldl addS s).2.all (nearB 2097152) = true := by
  induction l with
  | nil => intro s h _; exact h
  | cons x l ih =>
    intro s h hl
    rw [List.foldl_cons]
    refine ih _ ?_ (fun y hy => hl y (by simp [hy]))
    unfold addS
    split
    · exact h
    · rw [List.all_append, h]
      simpa using hl x (by simp)
theorem near_small {x : V2} (h : nearB 2097152 x = true) : smB x = true := by
  have := within_bd h
  exact small_of (by omega)
theorem addR_all {P : Pl} {keys : List Int} {norms : List V2} (hf : fitB P = true) (hn : norms.all (nearB 2097152) = true) : (addR P (keys.zip norms)).2.all (nearB 2097152) = true := by
  refine addL_all _ _ ?_ (fun x hx => List.all_eq_true.1 hn _ (List.of_mem_zip hx).2)
  unfold fitB at hf
  simp only [Bool.and_eq_true] at hf
  exact hf.2
theorem fit_parts {P : Pl} (h : fitB P = true) : (-8388608 ≤ P.p1 ∧ P.p1 ≤ 8388608 ∧ -8388608 ≤ P.p2 ∧ P.p2 ≤ 8388608) ∧ (-262144 ≤ P.v1 ∧ P.v1 ≤ 262144 ∧ -262144 ≤ P.v2 ∧ P.v2 ≤ 262144) ∧ (-4096 ≤ P.h1 ∧ P.h1 ≤ 4096 ∧ -4096 ≤ P.h2 ∧ P.h2 ≤ 4096) ∧ (-4096 ≤ P.f1 ∧ P.f1 ≤ 4096 ∧ -4096 ≤ P.f2 ∧ P.f2 ≤ 4096) ∧ (-262144 ≤ P.b1 ∧ P.b1 ≤ 262144 ∧ -262144 ≤ P.b2 ∧ P.b2 ≤ 262144) := by
  unfold fitB at h
  simp only [Bool.and_eq_true] at h
  obtain ⟨⟨⟨h1, h2⟩, h3⟩, _⟩ := h
  obtain ⟨a, b, c⟩ := valid_iff h1
  exact ⟨a, b, c, within_bd h2, within_bd h3⟩
theorem lift_bud {P : Pl} {s : List Int × List V2} (hf : fitB P = true) (hs : s.2.all (nearB 2097152) = true) : BudOk (liftP (withR P s)) := by
  obtain ⟨_, _, _, f, b⟩ := fit_parts hf
  obtain ⟨h1, h2, _, _⟩ := fit_bud hf
  have hl : ∀ n ∈ s.2, smB n = true := fun n hn => near_small (List.all_eq_true.1 hs n hn)
  have hb : smB (P.b1, P.b2) = true := small_of (show _ by simp only; omega)
  have hff : smB (P.f1, P.f2) = true := small_of (show _ by simp only; omega)
  exact ⟨h1, h2, (lift_good hb hl).1, (lift_good hff hl).1⟩
theorem tdiv_bd {a B : Int} (h1 : -(257 * B) ≤ a) (h2 : a ≤ 257 * B) : -B ≤ a.tdiv 257 ∧ a.tdiv 257 ≤ B := by
  have t := Int.mul_tdiv_add_tmod a 257
  have t1 := Int.tmod_lt_of_pos a (show (0 : Int) < 257 by decide)
  have t2 := Int.lt_tmod_of_pos a (show (0 : Int) < 257 by decide)
  omega
theorem turn_bd {v1 v2 n1 n2 : Int} (h : -262144 ≤ v1 ∧ v1 ≤ 262144 ∧ -262144 ≤ v2 ∧ v2 ≤ 262144) : (-524288 ≤ (turnR v1 v2 n1 n2).1 ∧ (turnR v1 v2 n1 n2).1 ≤ 524288) ∧ -524288 ≤ (turnR v1 v2 n1 n2).2.1 ∧ (turnR v1 v2 n1 n2).2.1 ≤ 524288 := by
  unfold turnR
  split
  · exact ⟨tdiv_bd (by omega) (by omega), tdiv_bd (by omega) (by omega)⟩
  · split
    · exact ⟨tdiv_bd (by omega) (by omega), tdiv_bd (by omega) (by omega)⟩
    · simp
theorem turn_bud {P : Pl} {s : List Int × List V2} {n : V2} (hf : fitB P = true) : BudOk (turnP (withR P s) n) := by
  obtain ⟨_, v, _, _, _⟩ := fit_parts hf
  obtain ⟨h1, h2, h3, h4⟩ := fit_bud hf
  have := turn_bd (n1 := n.1) (n2 := n.2) v
  exact ⟨h1, h2, small_of (show _ by simp only [turnP, withR]; omega), h4⟩
end Go.Proofs.Ytklkhnhieihfoaa
