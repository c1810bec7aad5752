/- Plans in memory; the contracts of support.within, slices.Clone, support.copied, accepted. -/
import Derived.Test.YtklkhnhieihfoaaSafeW
import Derived.Test.YtklkhnhieihfoaaFlight
import Derived.Test.YtklkhnhieihfoaaFlightR
import Derived.Test.YtklkhnhieihfoaaDraw
import Derived.Test.YtklkhnhieihfoaaShelf
import Derived.Deep.LoopGhost
import Derived.Lib.Hide
namespace Go.Proofs.Ytklkhnhieihfoaa
open Go Go.RowKit
set_option linter.unusedVariables false
theorem cel14 {G : Prop} {N b : Nat} {W w : World} {v0 v1 v2 v3 v4 v5 v6 v7 v8 v9 v10 v11 v12 v13 : Value} (hb : Below N W w) (h1 : b < N) (h2 : b < w.heap.size) (c0 : W.cell? ⟨b, 0, none⟩ = some v0) (c1 : W.cell? ⟨b, 1, none⟩ = some v1) (c2 : W.cell? ⟨b, 2, none⟩ = some v2) (c3 : W.cell? ⟨b, 3, none⟩ = some v3) (c4 : W.cell? ⟨b, 4, none⟩ = some v4) (c5 : W.cell? ⟨b, 5, none⟩ = some v5) (c6 : W.cell? ⟨b, 6, none⟩ = some v6) (c7 : W.cell? ⟨b, 7, none⟩ = some v7) (c8 : W.cell? ⟨b, 8, none⟩ = some v8) (c9 : W.cell? ⟨b, 9, none⟩ = some v9) (c10 : W.cell? ⟨b, 10, none⟩ = some v10) (c11 : W.cell? ⟨b, 11, none⟩ = some v11) (c12 : W.cell? ⟨b, 12, none⟩ = some v12) (c13 : W.cell? ⟨b, 13, none⟩ = some v13) (hf : ∀ o, W.frozen? ⟨b, o, none⟩ = false) (k : w.cell? ⟨b, 0, none⟩ = some v0 → w.cell? ⟨b, 1, none⟩ = some v1 → w.cell? ⟨b, 2, none⟩ = some v2 → w.cell? ⟨b, 3, none⟩ = some v3 → w.cell? ⟨b, 4, none⟩ = some v4 → w.cell? ⟨b, 5, none⟩ = some v5 → w.cell? ⟨b, 6, none⟩ = some v6 → w.cell? ⟨b, 7, none⟩ = some v7 → w.cell? ⟨b, 8, none⟩ = some v8 → w.cell? ⟨b, 9, none⟩ = some v9 → w.cell? ⟨b, 10, none⟩ = some v10 → w.cell? ⟨b, 11, none⟩ = some v11 → w.cell? ⟨b, 12, none⟩ = some v12 → w.cell? ⟨b, 13, none⟩ = some v13 → (∀ o, w.frozen? ⟨b, o, none⟩ = false) → (b < w.heap.size ∧ b < w.heap.size + 1 ∧ b < w.heap.size + 1 + 1 ∧ b < w.heap.size + 1 + 1 + 1) → G) : G :=
  k (by rw [hb.cell (p := ⟨b, 0, none⟩) h1]; exact c0) (by rw [hb.cell (p := ⟨b, 1, none⟩) h1]; exact c1) (by rw [hb.cell (p := ⟨b, 2, none⟩) h1]; exact c2) (by rw [hb.cell (p := ⟨b, 3, none⟩) h1]; exact c3) (by rw [hb.cell (p := ⟨b, 4, none⟩) h1]; exact c4) (by rw [hb.cell (p := ⟨b, 5, none⟩) h1]; exact c5) (by rw [hb.cell (p := ⟨b, 6, none⟩) h1]; exact c6) (by rw [hb.cell (p := ⟨b, 7, none⟩) h1]; exact c7) (by rw [hb.cell (p := ⟨b, 8, none⟩) h1]; exact c8) (by rw [hb.cell (p := ⟨b, 9, none⟩) h1]; exact c9) (by rw [hb.cell (p := ⟨b, 10, none⟩) h1]; exact c10) (by rw [hb.cell (p := ⟨b, 11, none⟩) h1]; exact c11) (by rw [hb.cell (p := ⟨b, 12, none⟩) h1]; exact c12) (by rw [hb.cell (p := ⟨b, 13, none⟩) h1]; exact c13) (fun o => by rw [hb.frozen (p := ⟨b, o, none⟩) h1]; exact hf o) ⟨h2, by omega, by omega, by omega⟩
def nearB (n : Int) (x : V2) : Bool := withinB x.1 x.2 n
set_option maxHeartbeats 2000000 in
theorem swithin_any (n : Int) (l : List V2) (A : Option Addr) (c : Nat) (w : World) (hl : l.length ≤ 1000000) (hV : VAt w A l) (n0 : 0 ≤ n) (n1 : n ≤ 1000000000) :
    Calls Try.prog 57 #[.int .i64 n, .slice A l.length c] w fun e w' => e = .returned (.bool (l.all (nearB n))) ∧ Below w.heap.size w w' := by
  have HV := Lib.hid hV
  obtain ⟨R, hR⟩ : ∃ R, R = l.all (nearB n) := ⟨_, rfl⟩
  rw [← hR]
  have HR := Lib.hid hR
  clear hV hR
  go_enter Try.func57, Try.ntmps57; (try simp only [List.append_eq, List.cons_append, List.nil_append])
  go_wp2_with fail
  go_loopw [9] (fun t wr => ∃ k : Nat, k ≤ l.length ∧ t = .int .i64 k ∧ Hid ((l.take k).all (nearB n) = true) ∧ Below w.heap.size w wr) (fun t _ => l.length - (intOf t).toNat)
  case atStart => exact ⟨0, by omega, rfl, Lib.hid rfl, Below.refl _ _⟩
  case round =>
    obtain ⟨k, hk, rfl, HA, hb_wr⟩ := hrel
    have hz_wr := hb_wr.size
    have HB := Lib.hid hb_wr
    have i1 : (0 : Int) ≤ (k : Int) := by omega
    by_cases hlt : k < l.length
    · obtain ⟨⟨a, b⟩, hx⟩ : ∃ x, l[k]? = some x := ⟨l[k], by simp⟩
      obtain ⟨g, o, rfl, hg, a0, a1⟩ := (HV.out.below HB.out (Nat.le_refl _)) k _ hx
      have hall := all_take_succ (p := nearB n) hx
      have HX := Lib.hid hx
      have HN := Lib.hid hall
      have i2 : (k : Int) < (l.length : Int) := by omega
      simp only at a0 a1
      clear hb_wr hx hall
      by_cases hin : -n ≤ a ∧ a ≤ n ∧ -n ≤ b ∧ b ≤ n
      · obtain ⟨j1, j2, j3, j4⟩ := hin
        have HN2 := Lib.hid (show (l.take (k + 1)).all (nearB n) = true by rw [HN.out, HA.out]; simp [nearB, withinB]; omega)
        go_wp2_with fail
        go_roundw
        case rel => exact ⟨k + 1, by omega, by go_num, HN2, HB.out.trans (show Below w.heap.size wr _ by ((with_reducible (repeat (first | exact bR _ _ | refine bS ?_ ?_ _ | refine bA ?_ ?_ _ | refine bD ?_ | refine bT ?_ (by assumption) ?_ | refine bO (by assumption) ?_ ?_))) <;> (first | omega | (simp; done) | (simp <;> omega))))⟩
        case measure => simp [intOf]; omega
      · have hfin : R = false := by
          rw [HR.out, List.all_eq_false]
          exact ⟨(a, b), List.mem_of_getElem? HX.out, by simp only [nearB, withinB, decide_eq_true_eq]; exact hin⟩
        subst hfin
        have h4 : a < -n ∨ (-n ≤ a ∧ n < a) ∨ (-n ≤ a ∧ a ≤ n ∧ b < -n) ∨ (-n ≤ a ∧ a ≤ n ∧ -n ≤ b ∧ n < b) := by omega
        clear hin
        rcases h4 with h4 | ⟨h4, h5⟩ | ⟨h4, h5, h6⟩ | ⟨h4, h5, h6, h7⟩
        all_goals
          go_wp2_with fail
          go_ret
          exact ⟨rfl, HB.out.trans (show Below w.heap.size wr _ by ((with_reducible (repeat (first | exact bR _ _ | refine bS ?_ ?_ _ | refine bA ?_ ?_ _ | refine bD ?_ | refine bT ?_ (by assumption) ?_ | refine bO (by assumption) ?_ ?_))) <;> (first | omega | (simp; done) | (simp <;> omega))))⟩
    · obtain rfl : k = l.length := by omega
      have hfin : R = true := by rw [HR.out]; have := HA.out; rwa [List.take_length] at this
      subst hfin
      clear hb_wr
      go_wp2_with fail
      go_ret
      exact ⟨rfl, HB.out⟩
set_option maxHeartbeats 2000000 in
theorem rwithin_any (n : Int) (l : List V2) (A : Option Addr) (c : Nat) (w : World) (hl : l.length ≤ 1000000) (hV : VAt w A l) (n0 : 0 ≤ n) (n1 : n ≤ 1000000000) :
    Calls Try.prog 92 #[.int .i64 n, .slice A l.length c] w fun e w' => e = .returned (.bool (l.all (nearB n))) ∧ Below w.heap.size w w' := by
  have HV := Lib.hid hV
  obtain ⟨R, hR⟩ : ∃ R, R = l.all (nearB n) := ⟨_, rfl⟩
  rw [← hR]
  have HR := Lib.hid hR
  clear hV hR
  go_enter Try.func92, Try.ntmps92; (try simp only [List.append_eq, List.cons_append, List.nil_append])
  go_wp2_with fail
  go_loopw [9] (fun t wr => ∃ k : Nat, k ≤ l.length ∧ t = .int .i64 k ∧ Hid ((l.take k).all (nearB n) = true) ∧ Below w.heap.size w wr) (fun t _ => l.length - (intOf t).toNat)
  case atStart => exact ⟨0, by omega, rfl, Lib.hid rfl, Below.refl _ _⟩
  case round =>
    obtain ⟨k, hk, rfl, HA, hb_wr⟩ := hrel
    have hz_wr := hb_wr.size
    have HB := Lib.hid hb_wr
    have i1 : (0 : Int) ≤ (k : Int) := by omega
    by_cases hlt : k < l.length
    · obtain ⟨⟨a, b⟩, hx⟩ : ∃ x, l[k]? = some x := ⟨l[k], by simp⟩
      obtain ⟨g, o, rfl, hg, a0, a1⟩ := (HV.out.below HB.out (Nat.le_refl _)) k _ hx
      have hall := all_take_succ (p := nearB n) hx
      have HX := Lib.hid hx
      have HN := Lib.hid hall
      have i2 : (k : Int) < (l.length : Int) := by omega
      simp only at a0 a1
      clear hb_wr hx hall
      by_cases hin : -n ≤ a ∧ a ≤ n ∧ -n ≤ b ∧ b ≤ n
      · obtain ⟨j1, j2, j3, j4⟩ := hin
        have HN2 := Lib.hid (show (l.take (k + 1)).all (nearB n) = true by rw [HN.out, HA.out]; simp [nearB, withinB]; omega)
        go_wp2_with fail
        go_roundw
        case rel => exact ⟨k + 1, by omega, by go_num, HN2, HB.out.trans (show Below w.heap.size wr _ by ((with_reducible (repeat (first | exact bR _ _ | refine bS ?_ ?_ _ | refine bA ?_ ?_ _ | refine bD ?_ | refine bT ?_ (by assumption) ?_ | refine bO (by assumption) ?_ ?_))) <;> (first | omega | (simp; done) | (simp <;> omega))))⟩
        case measure => simp [intOf]; omega
      · have hfin : R = false := by
          rw [HR.out, List.all_eq_false]
          exact ⟨(a, b), List.mem_of_getElem? HX.out, by simp only [nearB, withinB, decide_eq_true_eq]; exact hin⟩
        subst hfin
        have h4 : a < -n ∨ (-n ≤ a ∧ n < a) ∨ (-n ≤ a ∧ a ≤ n ∧ b < -n) ∨ (-n ≤ a ∧ a ≤ n ∧ -n ≤ b ∧ n < b) := by omega
        clear hin
        rcases h4 with h4 | ⟨h4, h5⟩ | ⟨h4, h5, h6⟩ | ⟨h4, h5, h6, h7⟩
        all_goals
          go_wp2_with fail
          go_ret
          exact ⟨rfl, HB.out.trans (show Below w.heap.size wr _ by ((with_reducible (repeat (first | exact bR _ _ | refine bS ?_ ?_ _ | refine bA ?_ ?_ _ | refine bD ?_ | refine bT ?_ (by assumption) ?_ | refine bO (by assumption) ?_ ?_))) <;> (first | omega | (simp; done) | (simp <;> omega))))⟩
    · obtain rfl : k = l.length := by omega
      have hfin : R = true := by rw [HR.out]; have := HA.out; rwa [List.take_length] at this
      subst hfin
      clear hb_wr
      go_wp2_with fail
      go_ret
      exact ⟨rfl, HB.out⟩
def IAt (w : World) (A : Option Addr) (l : List Int) : Prop := ∀ k x, l[k]? = some x → ∃ g o, A = some ⟨g, o, none⟩ ∧ g < w.heap.size ∧ w.cell? ⟨g, o + k, none⟩ = some (.int .i64 x)
theorem IAt.below {w w1 : World} {A : Option Addr} {l : List Int} {B : Nat} (h : IAt w A l) (hb : Below B w w1) (hB : w.heap.size ≤ B) : IAt w1 A l := fun k x hx => by
  obtain ⟨g, o, hA, hg, h0⟩ := h k x hx
  exact ⟨g, o, hA, Nat.lt_of_lt_of_le hg hb.size, (hb.cell (p := ⟨g, o + k, none⟩) (Nat.lt_of_lt_of_le hg hB)).trans h0⟩
theorem own_iat {w : World} {base : Nat} {e : TypeId} {cap : Nat} {A : Option Addr} {l : List Int} (h : w.ownsRow base e 1 (.slice A l.length cap) l.length (l.map (Value.int .i64))) : IAt w A l := fun k x hx => by
  have hk := (List.getElem?_eq_some_iff.1 hx).1
  rcases own_formS h with ⟨hn, _⟩ | ⟨_, g, c, hv, _, hg, _⟩
  · omega
  · simp only [Value.slice.injEq] at hv
    obtain ⟨rfl, _, rfl⟩ := hv
    refine ⟨g, 0, rfl, hg, ?_⟩
    rw [Nat.zero_add, h.cellAt k (by omega), List.getElem?_map, hx]
    rfl
theorem flatV_at {l : List V2} {j : Nat} {u : Value} (h : (flatV l)[j]? = some u) : ∃ k r x, j = k * 2 + r ∧ r < 2 ∧ l[k]? = some x ∧ (cellsOfV x)[r]? = some u := by
  have hj := (List.getElem?_eq_some_iff.1 h).1
  rw [flatV_len] at hj
  have hk : j / 2 < l.length := by omega
  have e : j = j / 2 * 2 + j % 2 := by omega
  refine ⟨j / 2, j % 2, l[j / 2], e, by omega, by simp, ?_⟩
  have := flatV_get (l := l) (k := j / 2) (j := j % 2) (x := l[j / 2]) (by simp) (by omega)
  rw [← e, h] at this
  exact this.symm
def CVOut (l : List V2) (w : World) (e : Ending) (w' : World) : Prop := Below w.heap.size w w' ∧ ∃ A c, e = .returned (.slice A l.length c) ∧ w'.ownsRow w.heap.size 23 2 (.slice A l.length c) l.length (flatV l)
def CIOut (l : List Int) (w : World) (e : Ending) (w' : World) : Prop := Below w.heap.size w w' ∧ ∃ A c, e = .returned (.slice A l.length c) ∧ w'.ownsRow w.heap.size 3 1 (.slice A l.length c) l.length (l.map (Value.int .i64))
set_option maxHeartbeats 1000000 in
theorem clonev_any (l : List V2) (A : Option Addr) (c : Nat) (w : World) (hl : l.length ≤ 1000) (hV : VAt w A l) :
    Calls Try.prog 107 #[.slice A l.length c] w (CVOut l w) := by
  have q22 : ∀ (w : World) (a : Option Addr) (n c n' c' : Nat), (binOp .eql 30 (.slice a n c) (.slice none n' c')).run Try.prog w = .ok (.bool a.isNone) w := fun w a n c n' c' => Lib.run_eql_slice_nil w _ _ a n c n' c' Try.underlying30
  have u22 : ∀ w, Sem.run Try.prog (underlying 30) w = .ok (TypeDesc.slice 23) w := run_underlying Try.underlying30
  obtain ⟨i0, hi0, hy⟩ := Option.map_eq_some_iff.1 vecInfo
  simp only [Prod.mk.injEq] at hy
  obtain ⟨hy0, hy1, hy2⟩ := hy
  rcases A with _ | a
  · have hnil : l = [] := by
      cases l with
      | nil => rfl
      | cons x l => obtain ⟨g, o, hA, _⟩ := hV 0 x rfl; cases hA
    subst hnil
    go_enter Try.func107, Try.ntmps107; (try simp only [List.append_eq, List.cons_append, List.nil_append])
    go_wp2_with fail
    go_ret
    exact ⟨Below.refl _ _, none, 0, rfl, World.ownsRow_nil _ _ _ _⟩
  · have hc : ∀ j u, (flatV l)[j]? = some u → w.cell? (a.add j) = some u := by
      intro j u hj
      obtain ⟨k, r, x, rfl, hr, hx, hu⟩ := flatV_at hj
      obtain ⟨g, o, hA, _, c0, c1⟩ := hV k x hx
      obtain rfl : a = ⟨g, o, none⟩ := Option.some.inj hA
      rw [Addr.add_lit]
      rcases (by omega : r = 0 ∨ r = 1) with rfl | rfl
      · simp only [cellsOfV, List.getElem?_cons_zero, Option.some.injEq] at hu
        rw [← hu]; simpa using c0
      · simp only [cellsOfV, List.getElem?_cons_succ, List.getElem?_cons_zero, Option.some.injEq] at hu
        rw [← hu]; simpa [Nat.add_assoc] using c1
    have HC := Lib.hid hc
    clear hc hV
    go_enter Try.func107, Try.ntmps107; (try simp only [List.append_eq, List.cons_append, List.nil_append])
    go_wp2_with (at_builtin; refine wpList_append_own _ rfl _ _ 30 rfl w.heap.size 23 i0 _ 2 16 Try.underlying30 hi0 hy0 hy1 hy2 rfl (by decide) _ _ _ rfl (World.ownsRow_made w #[] 0 (Nat.le_refl _) (Nat.zero_le _) rfl) a l.length c (flatV l) rfl ?qc1 ?qc2 ?qc3 ?qc4 ?qc5 ?qc6 ?_)
    case qc1 => first | rfl | (rw [flatV_len]) | (rw [flatV_len]; omega)
    case qc2 => intro j u hj; exact Lib.cell?_alloc_some _ (HC.out j u hj)
    case qc3 => intro u hu; obtain ⟨x, hx, hxu⟩ := List.mem_flatMap.1 hu; simp [cellsOfV] at hxu; rcases hxu with rfl | rfl <;> rfl
    case qc4 => unfold maxLen; omega
    case qc5 => omega
    case qc6 => simp
    intro v' w1 hown hgrow hnil
    obtain ⟨A', c', rfl⟩ := own_slice hown
    go_wp2_with fail
    go_ret
    refine ⟨((Below.refl _ w).alloc (Nat.le_refl _) _).grown hgrow (by simp) (by intro k hk; simp [Value.ownBlock] at hk; omega), A', c', ?_, ?_⟩
    · simp
    · simpa using hown
theorem clonei_any (l : List Int) (A : Option Addr) (c : Nat) (w : World) (hl : l.length ≤ 1000) (hV : IAt w A l) :
    Calls Try.prog 106 #[.slice A l.length c] w (CIOut l w) := by
  rcases A with _ | a
  · have hnil : l = [] := by
      cases l with
      | nil => rfl
      | cons x l => obtain ⟨g, o, hA, _⟩ := hV 0 x rfl; cases hA
    subst hnil
    exact (Try.slices_Clone_int_nil 0 c w).mono fun e w' ⟨he, hw⟩ => by subst hw; exact ⟨Below.refl _ _, none, 0, he, World.ownsRow_nil _ _ _ _⟩
  · rcases Nat.eq_zero_or_pos l.length with h0 | h0
    · obtain rfl := List.length_eq_zero_iff.1 h0
      refine (Try.slices_Clone_int_zero a c w).mono fun e w' ⟨v', he, ho, _, hb⟩ => ?_
      obtain ⟨A', c', rfl⟩ := own_slice ho
      exact ⟨hb, A', c', he, ho⟩
    · obtain ⟨x0, hx0⟩ : ∃ x, l[0]? = some x := ⟨l[0], by simp⟩
      obtain ⟨g, o, hA, _, _⟩ := hV 0 x0 hx0
      obtain rfl : a = ⟨g, o, none⟩ := Option.some.inj hA
      refine (Try.slices_Clone_int g o l.length c l w (Nat.le_refl _) (by omega) (fun j hj => ?_)).mono fun e w' ⟨v', he, ho, _, hb⟩ => ?_
      · obtain ⟨x, hx⟩ : ∃ x, l[j]? = some x := ⟨l[j], by simp⟩
        obtain ⟨g', o', hA', _, h1⟩ := hV j x hx
        have e := Option.some.inj hA'
        simp only [Addr.mk.injEq, and_true] at e
        obtain ⟨rfl, rfl⟩ := e
        rw [h1, List.getD_eq_getElem?_getD, hx]; rfl
      · rw [List.take_length] at ho
        obtain ⟨A', c', rfl⟩ := own_slice ho
        exact ⟨hb, A', c', he, ho⟩
end Go.Proofs.Ytklkhnhieihfoaa
