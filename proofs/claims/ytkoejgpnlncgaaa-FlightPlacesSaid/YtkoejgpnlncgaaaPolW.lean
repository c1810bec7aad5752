/- The contracts of algebra.Degree, Trim, Ints. -/
import Derived.Test.YtkoejgpnlncgaaaPol
namespace Go.Proofs.Ytkoejgpnlncgaaa
open Go Go.RowKit
set_option linter.unusedVariables false
theorem isC_shape {w : World} {x y : Value} {z : Int} (h : IsC w (.agg #[x, y]) z) : ∃ A c, x = .bool (decide (z < 0)) ∧ y = .slice A (canN z.natAbs).length c ∧ (canN z.natAbs).length ≤ c ∧ LAt w A (canN z.natAbs) := by
  obtain ⟨A, c, e, h1, h2⟩ := h
  simp only [Value.agg.injEq, Array.mk.injEq, List.cons.injEq, and_true] at e
  exact ⟨A, c, e.1, e.2, h1, h2⟩
theorem IsC.setCell {w : World} {v : Value} {z : Int} (h : IsC w v z) {p : Addr} {u : Value} (hp : w.cell? p = some u) (hu : ∀ x, u ≠ .int .u32 x) (x : Value) : IsC (w.setCell p x) v z := by
  obtain ⟨A, c, e, h1, h2⟩ := h
  exact ⟨A, c, e, h1, h2.setCell hp hu x⟩
theorem AllC.setCell {w : World} {vs : List (Value × Value)} {zs : List Int} (h : AllC w vs zs) {p : Addr} {u : Value} (hp : w.cell? p = some u) (hu : ∀ x, u ≠ .int .u32 x) (x : Value) : AllC (w.setCell p x) vs zs :=
  ⟨h.1, fun k q z h1 h2 => (h.2 k q z h1 h2).setCell hp hu x⟩
theorem sgn_zero {z : Int} : (sgn z == 0) = decide (z = 0) := by
  unfold sgn
  by_cases h : z = 0
  · rw [if_pos h, decide_eq_true h]; rfl
  · rw [if_neg h, decide_eq_false h]; split <;> rfl
theorem get_both {w : World} {vs : List (Value × Value)} {zs : List Int} (h : AllC w vs zs) {j : Nat} (hj : j < vs.length) : ∃ x y z, vs[j]? = some (x, y) ∧ zs[j]? = some z ∧ IsC w (.agg #[x, y]) z := by
  obtain ⟨p, hp⟩ : ∃ p, vs[j]? = some p := ⟨vs[j], by simp⟩
  obtain ⟨z, hz⟩ : ∃ z, zs[j]? = some z := ⟨zs[j]'(by rw [← h.1]; exact hj), by simp⟩
  exact ⟨p.1, p.2, z, hp, hz, h.2 j p z hp hz⟩
set_option maxRecDepth 100000 in
set_option maxHeartbeats 2000000 in
theorem wdegree_any (N : Nat) (A : Option Addr) (vs : List (Value × Value)) (zs : List Int) (c : Nat) (w : World) (hA : PaAt w A vs) (hz : AllC w vs zs) (hn : vs.length ≤ 1000000) (hl : ∀ z ∈ zs, (canN z.natAbs).length ≤ N) (hN : N ≤ 1000000) :
    Calls Try.prog 111 #[.slice A vs.length c] w fun e w' => e = .returned (.int .i64 ((tz zs : Int) - 1)) ∧ Below w.heap.size w w' := by
  have HA := Lib.hid hA
  have HZ := Lib.hid hz
  have HL := Lib.hid hl
  obtain ⟨n, hnn⟩ : ∃ n, n = vs.length := ⟨_, rfl⟩
  have HNN := Lib.hid hnn
  rw [← hnn] at hn ⊢
  have n0 : (0 : Int) ≤ (n : Int) := by omega
  have n1 : (n : Int) ≤ 1000000 := by omega
  clear hA hz hl hnn
  go_enter Try.func111, Try.ntmps111; (try simp only [List.append_eq, List.cons_append, List.nil_append])
  go_wp2_with fail
  go_loopw [3] (fun vn wr => ∃ q : Int, vn = .int .i64 q ∧ -1 ≤ q ∧ q < (n : Int) ∧ Hid (∀ (j : Nat) (z : Int), zs[j]? = some z → q < (j : Int) → z = 0) ∧ Below w.heap.size w wr) (fun vn _ => (intOf vn + 1).toNat)
  case atStart => exact ⟨(n : Int) - 1, rfl, by omega, by omega, Lib.hid (fun j z hj hq => by have h1 := (List.getElem?_eq_some_iff.1 hj).1; have h2 := HZ.out.1; have h3 := HNN.out; omega), Below.refl _ _⟩
  case round =>
    obtain ⟨q, rfl, q0, q1, HQ, hbel⟩ := hrel
    have HB := Lib.hid hbel
    have hz1 := hbel.size
    clear hbel
    by_cases hq : 0 ≤ q
    · obtain ⟨j, rfl⟩ : ∃ j : Nat, q = j := ⟨q.toNat, by omega⟩
      have hj : j < n := by omega
      obtain ⟨x, y, z, hp, hzj, hC⟩ := get_both HZ.out (j := j) (by have := HNN.out; omega)
      obtain ⟨g, o, rfl, hg, c0, c1⟩ := HA.out.below HB.out j _ hp
      simp only at c0 c1
      have HC := Lib.hid ((hC.below HB.out).zl (HL.out z (List.mem_of_getElem? hzj)))
      obtain ⟨A', c', rfl, rfl, _, _⟩ := isC_shape hC
      have hsg := fun w' h => wsign_any N (.agg #[.bool (decide (z < 0)), .slice A' (canN z.natAbs).length c']) z w' h hN
      have hs0 := @sgn_zero z
      obtain ⟨s, hs⟩ : ∃ s, s = sgn z := ⟨_, rfl⟩
      rw [← hs] at hsg hs0
      have HSG := Lib.hid hsg
      have HZJ := Lib.hid hzj
      have hq1 : decide ((0 : Int) ≤ (j : Int)) = true := decide_eq_true hq
      clear hp hzj hC hsg hs
      by_cases hz0 : z = 0
      · rw [decide_eq_true hz0] at hs0
        have HZ0 := Lib.hid hz0
        clear hz0
        go_wp2_with fail
        -- own blocks: 
        (go_at_call 113; refine (HSG.out _ HC.out).mono ?_; rintro e w5 ⟨rfl, hb_w5⟩; have hz_w5 := hb_w5.size; (try simp at hz_w5); skip)
        have HB5 := Lib.hid (HB.out.trans (hb_w5.mono hz1))
        clear hb_w5
        go_wp2_with fail
        go_roundw
        case rel => exact ⟨(j : Int) - 1, by go_num, by omega, by omega, Lib.hid (fun i y hi hij => by
          by_cases e : i = j
          · subst e; rw [HZJ.out] at hi; injection hi with hi; rw [← hi]; exact HZ0.out
          · exact HQ.out i y hi (by omega)), HB5.out⟩
        case measure => first | (simp [intOf]; done) | (simp [intOf]; omega)
      · rw [decide_eq_false hz0] at hs0
        have HT := Lib.hid (show tz zs = j + 1 from tz_of (by have h2 := HZ.out.1; have h3 := HNN.out; omega) (fun k y hk hjk => HQ.out k y hk (by omega)) (fun y _ hy => by
          rw [Nat.add_sub_cancel, HZJ.out] at hy; injection hy with hy; rw [← hy]; exact hz0))
        clear hz0
        go_wp2_with fail
        -- own blocks: 
        (go_at_call 113; refine (HSG.out _ HC.out).mono ?_; rintro e w5 ⟨rfl, hb_w5⟩; have hz_w5 := hb_w5.size; (try simp at hz_w5); skip)
        have HB5 := Lib.hid (HB.out.trans (hb_w5.mono hz1))
        clear hb_w5
        go_wp2_with fail
        go_ret
        refine ⟨?_, HB5.out⟩
        rw [HT.out]
        first | rfl | (congr 2; omega) | (simp; done)
    · have hqe : q = -1 := by omega
      subst hqe
      have HT := Lib.hid (show tz zs = 0 from tz_of (Nat.zero_le _) (fun k y hk _ => HQ.out k y hk (by omega)) (fun y h => absurd h (by omega)))
      clear hq
      go_wp2_with fail
      go_ret
      refine ⟨?_, HB.out⟩
      rw [HT.out]
      rfl
theorem take_snoc_any {α : Type} {l : List α} {k : Nat} {x : α} (hx : l[k]? = some x) : l.take (k + 1) = l.take k ++ [x] := by rw [List.take_add_one, hx]; rfl
theorem take_set_any {α : Type} {l : List α} {k : Nat} (x : α) (h : k < l.length) : (l.set k x).take (k + 1) = l.take k ++ [x] := by
  have h1 : (l.set k x)[k]? = some x := by simp [h]
  rw [take_snoc_any h1, List.take_set_of_le (Nat.le_refl _)]
theorem OwnP.cells {w : World} {base g n c : Nat} {l : List (Value × Value)} (h : OwnP w base (.slice (some ⟨g, 0, none⟩) n c) l) (hn : l.length = n) {k : Nat} {p : Value × Value} (hp : l[k]? = some p) : w.cell? ⟨g, k * 2, none⟩ = some p.1 ∧ w.cell? ⟨g, k * 2 + 1, none⟩ = some p.2 ∧ g < w.heap.size := by
  obtain ⟨A, d, e, _, hA⟩ := h.pa
  injection e with e1 e2 e3
  subst e1
  obtain ⟨g', o', he, hg, h1, h2⟩ := hA k p hp
  simp only [Option.some.injEq, Addr.mk.injEq] at he
  obtain ⟨rfl, rfl, _⟩ := he
  rw [Nat.zero_add] at h1 h2
  exact ⟨h1, h2, hg⟩
/-- The pairs of a row: no limbs. -/
def Plain (l : List (Value × Value)) : Prop := ∀ p ∈ l, (∃ b, p.1 = .bool b) ∧ (∃ A n c, p.2 = .slice A n c)
theorem Plain.zeros (n : Nat) : Plain (List.replicate n zpair) := fun p hp => by
  have := List.eq_of_mem_replicate hp
  subst this
  exact ⟨⟨_, rfl⟩, _, _, _, rfl⟩
theorem Plain.set {l : List (Value × Value)} (h : Plain l) (k : Nat) (b : Bool) (A : Option Addr) (n c : Nat) : Plain (l.set k (.bool b, .slice A n c)) := fun p hp => by
  rcases List.mem_or_eq_of_mem_set hp with hp | rfl
  · exact h p hp
  · exact ⟨⟨_, rfl⟩, _, _, _, rfl⟩
/-- One store into a row that is being filled: what was there stays. -/
theorem fill_step {w : World} {base g n c : Nat} {xs : List (Value × Value)} {zs : List Int} {k : Nat} {b : Bool} {A : Option Addr} {m d : Nat} {z : Int} (hown : OwnP w base (.slice (some ⟨g, 0, none⟩) n c) xs) (hn : xs.length = n) (hk : k < n) (hpl : Plain xs)
    (hall : AllC w (xs.take k) zs) (hC : IsC w (.agg #[.bool b, .slice A m d]) z) :
    OwnP ((w.setCell ⟨g, k * 2, none⟩ (.bool b)).setCell ⟨g, k * 2 + 1, none⟩ (.slice A m d)) base (.slice (some ⟨g, 0, none⟩) n c) (xs.set k (.bool b, .slice A m d)) ∧
    AllC ((w.setCell ⟨g, k * 2, none⟩ (.bool b)).setCell ⟨g, k * 2 + 1, none⟩ (.slice A m d)) ((xs.set k (.bool b, .slice A m d)).take (k + 1)) (zs ++ [z]) := by
  refine ⟨hown.stored hn (by omega) _ _, ?_⟩
  obtain ⟨p, hp⟩ : ∃ p, xs[k]? = some p := ⟨xs[k]'(by omega), by simp⟩
  obtain ⟨⟨b0, e0⟩, A0, n0, c0, e1⟩ := hpl p (List.mem_of_getElem? hp)
  obtain ⟨h0, h1, _⟩ := hown.cells hn hp
  rw [e0] at h0
  rw [e1] at h1
  have hne : (⟨g, k * 2 + 1, none⟩ : Addr) ≠ ⟨g, k * 2, none⟩ := by intro e; injection e with _ e _; omega
  have h1' : (w.setCell ⟨g, k * 2, none⟩ (.bool b)).cell? ⟨g, k * 2 + 1, none⟩ = some (.slice A0 n0 c0) := by
    rw [← h1]; go_simp
  rw [take_set_any _ (by omega)]
  refine AllC.snoc (p := (.bool b, .slice A m d)) ?_ ?_
  · exact (hall.setCell h0 (fun x h => by cases h) _).setCell h1' (fun x h => by cases h) _
  · exact (hC.setCell h0 (fun x h => by cases h) _).setCell h1' (fun x h => by cases h) _
def IAt (w : World) (A : Option Addr) (l : List Int) : Prop := ∀ k x, l[k]? = some x → ∃ g o, A = some ⟨g, o, none⟩ ∧ g < w.heap.size ∧ w.cell? ⟨g, o + k, none⟩ = some (.int .i64 x)
theorem IAt.below {w w1 : World} {A : Option Addr} {l : List Int} (h : IAt w A l) (hb : Below w.heap.size w w1) : IAt w1 A l := fun k x hx => by
  obtain ⟨g, o, h1, h2, h3⟩ := h k x hx
  exact ⟨g, o, h1, Nat.lt_of_lt_of_le h2 hb.size, by rw [hb.cell (p := ⟨g, o + k, none⟩) h2]; exact h3⟩
theorem iat_three {w : World} {b : Nat} {x y z : Int} (hb : b < w.heap.size) (h0 : w.cell? ⟨b, 0, none⟩ = some (.int .i64 x)) (h1 : w.cell? ⟨b, 1, none⟩ = some (.int .i64 y)) (h2 : w.cell? ⟨b, 2, none⟩ = some (.int .i64 z)) : IAt w (some ⟨b, 0, none⟩) [x, y, z] := by
  intro k u hu
  refine ⟨b, 0, rfl, hb, ?_⟩
  rcases k with _ | _ | _ | k
  · simp at hu; subst hu; exact h0
  · simp at hu; subst hu; exact h1
  · simp at hu; subst hu; exact h2
  · simp at hu
set_option maxRecDepth 100000 in
set_option maxHeartbeats 4000000 in
theorem wtrimp_any (N : Nat) (A : Option Addr) (vs : List (Value × Value)) (zs : List Int) (c : Nat) (w : World) (hA : PaAt w A vs) (hz : AllC w vs zs) (hn : vs.length ≤ 1000000) (hl : ∀ z ∈ zs, (canN z.natAbs).length ≤ N) (hN : N ≤ 1000000) :
    Calls Try.prog 103 #[.slice A vs.length c] w (POut (trimP zs) w) := by
  have hdg := fun w' (hb : Below w.heap.size w w') => wdegree_any N A vs zs c w' (hA.below hb) (hz.below hb) hn hl hN
  have HDG := Lib.hid hdg
  have HA := Lib.hid hA
  have HZ := Lib.hid hz
  have HL := Lib.hid hl
  have htl := tz_le zs
  have hzl := hz.1
  obtain ⟨n, hnn⟩ : ∃ n, n = tz zs := ⟨_, rfl⟩
  obtain ⟨ln, hln⟩ : ∃ n, n = vs.length := ⟨_, rfl⟩
  have ht : trimP zs = zs.take n := by unfold trimP; rw [← hnn]
  rw [ht]
  rw [← hnn] at HDG htl
  have HLN := Lib.hid hln
  rw [← hln] at hn HDG hzl ⊢
  have nl : n ≤ ln := by omega
  have n0 : (0 : Int) ≤ (n : Int) := by omega
  have n1 : (n : Int) ≤ 1000000 := by omega
  have HT := Lib.hid (And.intro hzl htl)
  clear hdg hA hz hl ht hnn hln hzl htl
  by_cases h0 : n = 0
  · subst h0
    go_enter Try.func103, Try.ntmps103; (try simp only [List.append_eq, List.cons_append, List.nil_append])
    go_wp2_with fail
    -- own blocks: 
    (go_at_call 111; refine (HDG.out _ (Below.refl _ _)).mono ?_; rintro e w1 ⟨rfl, hb_w1⟩; have hz_w1 := hb_w1.size; (try simp at hz_w1); skip)
    go_wp2_with fail
    go_ret
    exact ⟨hb_w1, _, rfl, by rw [List.take_zero]; exact isP_nil _⟩
  · have hmk := fun w => run_make_poly n (by omega) w
    have e0 : (((n : Nat) : Int) == 0) = false := by rw [beq_eq_false_iff_ne]; omega
    have e1 : (n : Int) - 1 + 1 = n := by omega
    clear h0
    go_enter Try.func103, Try.ntmps103; (try simp only [List.append_eq, List.cons_append, List.nil_append])
    go_wp2_with fail
    -- own blocks: 
    (go_at_call 111; refine (HDG.out _ (Below.refl _ _)).mono ?_; rintro e w1 ⟨rfl, hb_w1⟩; have hz_w1 := hb_w1.size; (try simp at hz_w1); skip)
    have HB1 := Lib.hid hb_w1
    clear hb_w1
    go_wp2_with fail
    clear hmk
    have hg0 : w1.heap.size < w1.heap.size + 1 := by omega
    go_loopw [15, 5] (fun vi _ wr => ∃ (i : Nat) (xs : List (Value × Value)), i ≤ n ∧ vi = .int .i64 i ∧ OwnP wr w1.heap.size (.slice (some ⟨w1.heap.size, 0, none⟩) n n) xs ∧ Hid (xs.length = n ∧ Plain xs ∧ AllC wr (xs.take i) (zs.take i)) ∧ Below w1.heap.size w1 wr) (fun vi _ _ => (n - (intOf vi).toNat))
    case atStart => exact ⟨0, List.replicate n zpair, by omega, rfl, OwnP.made w1 n _ (Nat.le_refl _) (by omega), Lib.hid ⟨by simp, Plain.zeros n, AllC.nil _⟩, (Below.refl _ _).alloc (Nat.le_refl _) _⟩
    case round =>
      obtain ⟨i, xs, hi, rfl, hown, HI, hbel⟩ := hrel
      obtain ⟨wo, rfl⟩ : ∃ wo : World, wo = wr := ⟨_, rfl⟩
      have HOW := Lib.hid hown
      have HBE := Lib.hid hbel
      have hz1 := hbel.size
      have i0 : (0 : Int) ≤ (i : Int) := by omega
      clear hown hbel
      by_cases hin : i < n
      · have hBB := Lib.hid (HB1.out.trans (HBE.out.mono HB1.out.size))
        obtain ⟨x, y, z, hp, hzj, hC⟩ := get_both HZ.out (j := i) (by have := HLN.out; omega)
        obtain ⟨g, o, rfl, hg, c0, c1⟩ := HA.out.below hBB.out i _ hp
        simp only at c0 c1
        have HC := Lib.hid ((hC.below hBB.out).zl (HL.out z (List.mem_of_getElem? hzj)))
        obtain ⟨A', c', rfl, rfl, _, _⟩ := isC_shape hC
        have hj1 : (i : Int) < (n : Int) := by omega
        have hj2 : (i : Int) < (ln : Int) := by omega
        have HTS := Lib.hid (take_snoc_any hzj)
        clear hp hzj hC
        go_wp2_with fail
        -- own blocks: 
        (go_at_call 112; refine (wtrim_any N _ z _ HC.out hN).mono ?_; rintro e w5 ⟨hb_w5, v5, rfl, A5, c5, rfl, hc5, hA5⟩; have hz_w5 := hb_w5.size; (try simp at hz_w5); skip)
        have HC5 := Lib.hid (show IsC w5 (.agg #[.bool (decide (z < 0)), .slice A5 (canN z.natAbs).length c5]) z from ⟨A5, c5, rfl, hc5, hA5⟩)
        have HB5 := Lib.hid (HBE.out.trans (hb_w5.mono hz1))
        have HO5 := Lib.hid (HOW.out.below hb_w5)
        have HF := Lib.hid (fill_step HO5.out HI.out.1 hin HI.out.2.1 (HI.out.2.2.below hb_w5) HC5.out)
        obtain ⟨p, hp⟩ : ∃ p, xs[i]? = some p := ⟨xs[i]'(by have := HI.out.1; omega), by simp⟩
        obtain ⟨k0, k1, k2⟩ := HO5.out.cells HI.out.1 hp
        have k3 := HO5.out.frozen HI.out.1
        clear hp hb_w5 hc5 hA5 c0 c1
        go_wp2_with fail
        go_roundw
        case rel => exact ⟨i + 1, xs.set i (.bool (decide (z < 0)), .slice A5 (canN z.natAbs).length c5), by omega, by go_num, HF.out.1, Lib.hid ⟨by rw [List.length_set]; exact HI.out.1, HI.out.2.1.set _ _ _ _ _, by rw [HTS.out]; exact HF.out.2⟩, by have hb := HB5.out; ((with_reducible (repeat (first | exact bR _ _ | refine bS ?_ ?_ _ | refine bA ?_ ?_ _ | refine bD ?_ | refine bT ?_ (by assumption) ?_ | refine bO (by assumption) ?_ ?_))) <;> (first | omega | (simp; done) | (simp <;> omega)))⟩
        case measure => first | (simp [intOf]; done) | (simp [intOf]; omega)
      · obtain rfl : i = n := by omega
        have hj1 : ¬ (i : Int) < (i : Int) := by omega
        have hf := HI.out.2.2
        rw [List.take_of_length_le (l := xs) (by have := HI.out.1; omega)] at hf
        have HF := Lib.hid hf
        obtain ⟨A6, c6, e6, hc6, hP6⟩ := HOW.out.pa
        have HP6 := Lib.hid hP6
        simp only [Value.slice.injEq] at e6
        have HE6 := Lib.hid e6.1
        clear hf hP6 hin e6 hc6
        go_wp2_with fail
        go_ret
        have hl := HI.out.1
        refine ⟨HB1.out.trans (HBE.out.mono HB1.out.size), .slice (some ⟨w1.heap.size, 0, none⟩) i i, ?_, some ⟨w1.heap.size, 0, none⟩, i, xs, by rw [hl], by omega, by rw [HE6.out]; exact HP6.out, HF.out⟩
        first | rfl | (simp; done)
set_option maxRecDepth 100000 in
set_option maxHeartbeats 4000000 in
theorem wints_any (A : Option Addr) (ns : List Int) (c : Nat) (w : World) (hA : IAt w A ns) (hn : ns.length ≤ 1000000) (hb : ∀ n ∈ ns, -9223372036854775808 ≤ n ∧ n ≤ 9223372036854775807) :
    Calls Try.prog 86 #[.slice A ns.length c] w (POut (trimP ns) w) := by
  have HA := Lib.hid hA
  have HBD := Lib.hid hb
  obtain ⟨n, hnn⟩ : ∃ n, n = ns.length := ⟨_, rfl⟩
  have HNN := Lib.hid hnn
  rw [← hnn] at hn ⊢
  have hmk := fun w => run_make_poly n (by omega) w
  have n0 : (0 : Int) ≤ (n : Int) := by omega
  have n1 : (n : Int) ≤ 1000000 := by omega
  clear hA hb hnn
  go_enter Try.func86, Try.ntmps86; (try simp only [List.append_eq, List.cons_append, List.nil_append])
  go_wp2_with fail
  clear hmk
  have hg0 : w.heap.size < w.heap.size + 1 := by omega
  go_loopw [11, 4, 5] (fun vi _ _ wr => ∃ (i : Nat) (xs : List (Value × Value)), i ≤ n ∧ vi = .int .i64 i ∧ OwnP wr w.heap.size (.slice (some ⟨w.heap.size, 0, none⟩) n n) xs ∧ Hid (xs.length = n ∧ Plain xs ∧ AllC wr (xs.take i) (ns.take i)) ∧ Below w.heap.size w wr) (fun vi _ _ _ => (n - (intOf vi).toNat))
  case atStart => exact ⟨0, List.replicate n zpair, by omega, rfl, OwnP.made w n _ (Nat.le_refl _) (by omega), Lib.hid ⟨by simp, Plain.zeros n, AllC.nil _⟩, (Below.refl _ _).alloc (Nat.le_refl _) _⟩
  case round =>
    obtain ⟨i, xs, hi, rfl, hown, HI, hbel⟩ := hrel
    obtain ⟨wo, rfl⟩ : ∃ wo : World, wo = wr := ⟨_, rfl⟩
    have HOW := Lib.hid hown
    have HBE := Lib.hid hbel
    have hz1 := hbel.size
    have i0 : (0 : Int) ≤ (i : Int) := by omega
    clear hown hbel
    by_cases hin : i < n
    · obtain ⟨z, hzj⟩ : ∃ z, ns[i]? = some z := ⟨ns[i]'(by have := HNN.out; omega), by simp⟩
      obtain ⟨b0, b1⟩ := HBD.out z (List.mem_of_getElem? hzj)
      obtain ⟨g, o, rfl, hg, c0⟩ := HA.out.below HBE.out i z hzj
      have hj1 : (i : Int) < (n : Int) := by omega
      have HTS := Lib.hid (take_snoc_any hzj)
      clear hzj
      go_wp2_with fail
      -- own blocks: 
      (go_at_call 102; refine (wof_any z _ b0 b1).mono ?_; rintro e w5 ⟨hb_w5, v5, rfl, A5, c5, rfl, hc5, hA5⟩; have hz_w5 := hb_w5.size; (try simp at hz_w5); skip)
      have HC5 := Lib.hid (show IsC w5 (.agg #[.bool (decide (z < 0)), .slice A5 (canN z.natAbs).length c5]) z from ⟨A5, c5, rfl, hc5, hA5⟩)
      have HB5 := Lib.hid (HBE.out.trans (hb_w5.mono hz1))
      have HO5 := Lib.hid (HOW.out.below hb_w5)
      have HF := Lib.hid (fill_step HO5.out HI.out.1 hin HI.out.2.1 (HI.out.2.2.below hb_w5) HC5.out)
      obtain ⟨p, hp⟩ : ∃ p, xs[i]? = some p := ⟨xs[i]'(by have := HI.out.1; omega), by simp⟩
      obtain ⟨k0, k1, k2⟩ := HO5.out.cells HI.out.1 hp
      have k3 := HO5.out.frozen HI.out.1
      clear hp hb_w5 hc5 hA5 c0
      go_wp2_with fail
      go_roundw
      case rel => exact ⟨i + 1, xs.set i (.bool (decide (z < 0)), .slice A5 (canN z.natAbs).length c5), by omega, by go_num, HF.out.1, Lib.hid ⟨by rw [List.length_set]; exact HI.out.1, HI.out.2.1.set _ _ _ _ _, by rw [HTS.out]; exact HF.out.2⟩, by have hb := HB5.out; ((with_reducible (repeat (first | exact bR _ _ | refine bS ?_ ?_ _ | refine bA ?_ ?_ _ | refine bD ?_ | refine bT ?_ (by assumption) ?_ | refine bO (by assumption) ?_ ?_))) <;> (first | omega | (simp; done) | (simp <;> omega)))⟩
      case measure => first | (simp [intOf]; done) | (simp [intOf]; omega)
    · obtain rfl : i = n := by omega
      have hj1 : ¬ (i : Int) < (i : Int) := by omega
      have hf := HI.out.2.2
      rw [List.take_of_length_le (l := xs) (by have := HI.out.1; omega), List.take_of_length_le (l := ns) (by have := HNN.out; omega)] at hf
      obtain ⟨A6, c6, e6, hc6, hP6⟩ := HOW.out.pa
      have hl := HI.out.1
      simp only [Value.slice.injEq] at e6
      rw [← e6.1] at hP6
      have htr := wtrimp_any 2 (some ⟨w.heap.size, 0, none⟩) xs ns i wo hP6 hf (by omega) (fun z hz => canN_len.2 (by rw [show PB 2 = 18446744073709551616 from by decide]; have := HBD.out z hz; omega)) (by omega)
      rw [hl] at htr
      have HTR := Lib.hid htr
      clear hf hP6 hin htr hl e6 hc6
      go_wp2_with fail
      -- own blocks: 
      (go_at_call 103; refine (HTR.out).mono ?_; rintro e w7 ⟨hb_w7, v7, rfl, hv7⟩; have hz_w7 := hb_w7.size; (try simp at hz_w7); skip)
      have HV7 := Lib.hid hv7
      obtain ⟨A7, c7, vs7, rfl, _, _, _⟩ := hv7
      go_wp2_with fail
      go_ret
      refine ⟨HBE.out.trans (hb_w7.mono hz1), .slice A7 vs7.length c7, ?_, HV7.out⟩
      first | rfl | (simp; done)
theorem polyof_any (A : Option Addr) (ns : List Int) (c : Nat) (w : World) (hA : IAt w A ns) (hn : ns.length ≤ 1000000) (hb : ∀ n ∈ ns, -9223372036854775808 ≤ n ∧ n ≤ 9223372036854775807) :
    Calls Try.prog 64 #[.slice A ns.length c] w (POut (trimP ns) w) := by
  have hin := fun w' (h : Below w.heap.size w w') => wints_any A ns c w' (hA.below h) hn hb
  obtain ⟨n, hnn⟩ : ∃ n, n = ns.length := ⟨_, rfl⟩
  rw [← hnn] at hin ⊢
  have HIN := Lib.hid hin
  clear hin hA hb hn hnn
  go_enter Try.func64, Try.ntmps64; (try simp only [List.append_eq, List.cons_append, List.nil_append])
  go_wp2_with fail
  -- own blocks: 
  (go_at_call 86; refine (HIN.out _ (Below.refl _ _)).mono ?_; rintro e w7 ⟨hb_w7, v7, rfl, hv7⟩; have hz_w7 := hb_w7.size; (try simp at hz_w7); skip)
  have HV7 := Lib.hid hv7
  obtain ⟨A7, c7, vs7, rfl, _, _, _⟩ := hv7
  go_wp2_with fail
  go_ret
  refine ⟨hb_w7, .slice A7 vs7.length c7, ?_, HV7.out⟩
  first | rfl | (simp; done)
end Go.Proofs.Ytkoejgpnlncgaaa
