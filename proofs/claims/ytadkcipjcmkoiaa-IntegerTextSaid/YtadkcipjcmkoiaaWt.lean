/- The contract of wide.Text. -/
import Derived.Test.YtadkcipjcmkoiaaWq
import Derived.Test.YtadkcipjcmkoiaaByt
import Derived.Deep.LoopGhost
import Derived.RegionTactic
import Derived.ChangeAlike
namespace Go.Proofs.Ytadkcipjcmkoiaa
open Go Go.RowKit
set_option linter.unusedVariables false
/-- The decimal digits of a number, the lowest first, as bytes. -/
def digR (n : Nat) : List Int := if h : n = 0 then [] else ((48 + n % 10 : Nat) : Int) :: digR (n / 10)
termination_by n
decreasing_by omega
theorem digR_zero : digR 0 = [] := by unfold digR; rfl
theorem digR_pos {n : Nat} (h : n ≠ 0) : digR n = ((48 + n % 10 : Nat) : Int) :: digR (n / 10) := by rw [digR, dif_neg h]
theorem digR_byte (n : Nat) : ∀ x ∈ digR n, 48 ≤ x ∧ x < 58 := by
  induction n using Nat.strongRecOn with
  | ind n ih =>
    by_cases h : n = 0
    · subst h; rw [digR_zero]; intro x hx; cases hx
    · rw [digR_pos h]
      intro x hx
      rcases List.mem_cons.1 hx with rfl | hx
      · omega
      · exact ih _ (by omega) x hx
theorem digR_len {k : Nat} : ∀ {n : Nat}, n < 10 ^ k → (digR n).length ≤ k := by
  induction k with
  | zero => intro n h; have : n = 0 := by simpa using h
            subst this; rw [digR_zero]; simp
  | succ k ih =>
    intro n h
    by_cases h0 : n = 0
    · subst h0; rw [digR_zero]; simp
    · rw [digR_pos h0, List.length_cons]
      have := @ih (n / 10) (by rw [Nat.pow_succ] at h; omega)
      omega
theorem digR_limbs {n L : Nat} (h : (canN n).length ≤ L) : (digR n).length ≤ 10 * L := by
  apply digR_len
  have h1 := canN_len.1 h
  have e : PB L = ((4294967296 ^ L : Nat) : Int) := by unfold PB; rw [Int.natCast_pow]; rfl
  rw [e] at h1
  have h2 : n < 4294967296 ^ L := by exact_mod_cast h1
  have h3 : 4294967296 ^ L ≤ (10 ^ 10) ^ L := Nat.pow_le_pow_left (by decide) L
  rw [Nat.pow_mul]
  omega
theorem digR_step {q r m : Nat} (h : 0 < q * 10 ^ (m + 1) + r) : digR (q * 10 ^ (m + 1) + r) = ((48 + r % 10 : Nat) : Int) :: digR (q * 10 ^ m + r / 10) := by
  rw [digR_pos (by omega)]
  have e : q * 10 ^ (m + 1) = 10 * (q * 10 ^ m) := by rw [Nat.pow_succ]; grind
  have e1 : (q * 10 ^ (m + 1) + r) % 10 = r % 10 := by rw [e]; omega
  have e2 : (q * 10 ^ (m + 1) + r) / 10 = q * 10 ^ m + r / 10 := by rw [e]; omega
  rw [e1, e2]
/-- The text of an integer, as bytes. -/
def textR (z : Int) : List Int := if z = 0 then [48] else (if z < 0 then [45] else []) ++ (digR z.natAbs).reverse
theorem OwnB.lt {w : World} {base : Nat} {v : Value} {l : List Int} (h : OwnB w base v l) : ∀ k, v.ownBlock = some k → k < w.heap.size := fun k hk => (World.ownsRow.lt h k hk).2
/-- A list whose first and last i places have been swapped. -/
def RevI (E C : List Int) (N i : Nat) : Prop := C.length = N ∧ ∀ j, C[j]? = if j < i ∨ N ≤ j + i then E.reverse[j]? else E[j]?
theorem rev_start {E : List Int} {N : Nat} (hN : N = E.length) : RevI E E N 0 := by
  refine ⟨hN.symm, fun j => ?_⟩
  split
  · rename_i h
    rw [List.getElem?_eq_none (by omega), List.getElem?_eq_none (by rw [List.length_reverse]; omega)]
  · rfl
theorem rev_step {E C : List Int} {N i : Nat} {x y : Int} (h : RevI E C N i) (hN : N = E.length) (hi : 2 * i + 1 < N) (hx : C[i]? = some x) (hy : C[N - 1 - i]? = some y) : RevI E ((C.set i y).set (N - 1 - i) x) N (i + 1) := by
  obtain ⟨hl, hC⟩ := h
  refine ⟨by rw [List.length_set, List.length_set]; exact hl, fun j => ?_⟩
  by_cases h1 : N - 1 - i = j
  · subst h1
    rw [List.getElem?_set_self (by rw [List.length_set]; omega), if_pos (by omega), List.getElem?_reverse (by omega)]
    have h2 := hC i
    rw [if_neg (by omega), hx] at h2
    rw [h2]
    congr 1
    omega
  · rw [List.getElem?_set_ne h1]
    by_cases h2 : i = j
    · subst h2
      rw [List.getElem?_set_self (by omega), if_pos (by omega), List.getElem?_reverse (by omega)]
      have h3 := hC (N - 1 - i)
      rw [if_neg (by omega), hy] at h3
      rw [h3, hN]
    · rw [List.getElem?_set_ne h2, hC j]
      by_cases h3 : j < i ∨ N ≤ j + i
      · rw [if_pos h3, if_pos (by omega)]
      · rw [if_neg h3, if_neg (by omega)]
theorem rev_end {E C : List Int} {N i : Nat} (h : RevI E C N i) (hN : N = E.length) (h1 : 2 * i ≤ N) (h2 : N ≤ 2 * i + 1) : C = E.reverse := by
  obtain ⟨hl, hC⟩ := h
  apply List.ext_getElem?
  intro j
  rw [hC j]
  split
  · rfl
  · rename_i h3
    rw [List.getElem?_reverse (by omega)]
    congr 1
    omega
theorem Byte.set {l : List Int} (h : Byte l) (k : Nat) {x : Int} (h0 : 0 ≤ x) (h1 : x < 256) : Byte (l.set k x) := fun y hy => by
  rcases List.mem_or_eq_of_mem_set hy with g | rfl
  · exact h y g
  · exact ⟨h0, h1⟩
set_option maxHeartbeats 1000000 in
theorem wtext_zero (n : Nat) (v : Value) (w : World) (h : IsZ w v n 0) (hn : n ≤ 100000) :
    Calls Try.prog 52 #[v] w fun e w' => e = .returned (.string (strOf (textR 0))) ∧ Below w.heap.size w w' := by
  have H := Lib.hid h
  obtain ⟨p, A, c, l, rfl⟩ := isZ_val h
  clear h
  have hm := fun w' (h' : Below w.heap.size w w') => wlimbs_any n _ 0 w' (H.out.below h') (by omega)
  unfold LimOut at hm
  rw [show (0 : Int).natAbs = 0 from rfl, canN_zero] at hm
  have HM := Lib.hid hm
  clear hm
  have e0 : strOf (textR 0) = ⟨#[48]⟩ := rfl
  rw [e0]
  clear e0
  go_enter Try.func52, Try.ntmps52; (try simp only [List.append_eq, List.cons_append, List.nil_append])
  go_wp2_with fail
  -- own blocks: w.heap.size:2
  (go_at_call 77; refine (HM.out _ ((Below.refl _ _).alloc (Nat.le_refl _) _)).mono ?_; rintro e w1 ⟨hb_w1, A1, c1, rfl, hc1, hA1⟩; have hz_w1 := hb_w1.size; (try simp at hz_w1); (with_reducible apply cel2 (b := w.heap.size) hb_w1); (focus ((try simp) <;> omega)); (focus omega); (focus (go_simp; try exact rfl)); (focus (go_simp; try exact rfl)); (focus (intro o; go_simp)); intro cc cc fz hl)
  clear hc1 hA1
  simp only [List.length_nil]
  go_wp2_with fail
  go_ret
  exact ⟨rfl, by ((with_reducible (repeat (first | exact bR _ _ | refine bS ?_ ?_ _ | refine bA ?_ ?_ _ | refine bD ?_ | refine bT ?_ (by assumption) ?_ | refine bO (by assumption) ?_ ?_))) <;> (first | omega | (simp; done) | (simp <;> omega)))⟩
set_option maxRecDepth 100000 in
set_option maxHeartbeats 4000000 in
theorem wtext_pos (n : Nat) (v : Value) (z : Int) (w : World) (h : IsZ w v n z) (hn : n ≤ 100000) (hz0 : z ≠ 0) :
    Calls Try.prog 52 #[v] w fun e w' => e = .returned (.string (strOf (textR z))) ∧ Below w.heap.size w w' := by
  have H := Lib.hid h
  have la := isZ_len h
  obtain ⟨p, A, c, l, rfl⟩ := isZ_val h
  have hm := fun w' (h' : Below w.heap.size w w') => wlimbs_any n _ z w' (H.out.below h') (by omega)
  have b0 := canN_ne0 (x := z.natAbs) (by omega)
  obtain ⟨sp, hsp⟩ : ∃ sp, sp = decide (z < 0) := ⟨_, rfl⟩
  obtain ⟨x, hx⟩ : ∃ x, x = z.natAbs := ⟨_, rfl⟩
  have hx0 : x ≠ 0 := by omega
  have htr : textR z = (if sp = true then [45] else []) ++ (digR x).reverse := by
    unfold textR
    rw [if_neg hz0, hx, hsp]
    by_cases hneg : z < 0 <;> simp [hneg]
  unfold LimOut at hm
  rw [← hx, ← hsp] at hm
  rw [← hx] at la b0
  rw [htr]
  have HM := Lib.hid hm
  have hdl := digR_limbs la
  clear h hm hsp hx htr hz0 H
  go_enter Try.func52, Try.ntmps52; (try simp only [List.append_eq, List.cons_append, List.nil_append])
  go_wp2_with fail
  -- own blocks: w.heap.size:2
  (go_at_call 77; refine (HM.out _ ((Below.refl _ _).alloc (Nat.le_refl _) _)).mono ?_; rintro e w1 ⟨hb_w1, A1, c1, rfl, hc1, hA1⟩; have hz_w1 := hb_w1.size; (try simp at hz_w1); (with_reducible apply cel2 (b := w.heap.size) hb_w1); (focus ((try simp) <;> omega)); (focus omega); (focus (go_simp; try exact rfl)); (focus (go_simp; try exact rfl)); (focus (intro o; go_simp)); intro cc cc fz hl)
  have HA1 := Lib.hid hA1
  have HB1 := Lib.hid (show Below w.heap.size w w1 by ((with_reducible (repeat (first | exact bR _ _ | refine bS ?_ ?_ _ | refine bA ?_ ?_ _ | refine bD ?_ | refine bT ?_ (by assumption) ?_ | refine bO (by assumption) ?_ ?_))) <;> (first | omega | (simp; done) | (simp <;> omega))))
  clear hc1 hA1 hb_w1
  go_wp2_with (at_builtin; go_must (refine wpList_append_limbs rfl _ _ rfl w1.heap.size (.slice none 0 0) [] rfl (OwnL.nil _ _) A1 c1 (canN x) rfl HA1.out (by simp; omega) (Nat.le_refl _) ?_))
  intro v2 w2 hown hg2
  have HB2 := Lib.hid (HB1.out.trans (((Below.refl w1.heap.size w1).grown hg2 (Nat.le_refl _) (by simp [Value.ownBlock])).mono HB1.out.size))
  obtain ⟨A2, c2, rfl, hc2, _, hA2⟩ := lat_of_own hown
  have HA2 := Lib.hid hA2
  have HC2 := Lib.hid hc2
  clear hown hg2 hA2 hc2
  go_wp2_with fail
  go_loopg [5, 6] x (fun gk vo vr wr => ∃ (R : Nat) (A : Option Addr) (c : Nat) (D : List Int), R = gk ∧ vr = .slice A (canN R).length c ∧ OwnB wr w2.heap.size vo D ∧ Hid (LAt wr A (canN R) ∧ (canN R).length ≤ c ∧ D ++ digR R = digR x ∧ ∀ g o, A = some ⟨g, o, none⟩ → some g ≠ vo.ownBlock) ∧ (canN R).length ≤ n ∧ Below w2.heap.size w2 wr)
  case atStart => exact ⟨x, A2, c2, [], rfl, rfl, OwnB.nil _ _, Lib.hid ⟨HA2.out, HC2.out, rfl, fun g o _ h => by simp [Value.ownBlock] at h⟩, la, Below.refl _ _⟩
  case round =>
    obtain ⟨R, A3, c3, D, hgk, rfl, hown, HR, lr, hbel⟩ := hrel
    subst hgk
    obtain ⟨wo, rfl⟩ : ∃ wo : World, wo = wr := ⟨_, rfl⟩
    have HOW := Lib.hid hown
    have HBE := Lib.hid hbel
    have hz := hbel.size
    have hdl2 : D.length ≤ 10 * n := by
      have h1 := congrArg List.length HR.out.2.2.1
      rw [List.length_append] at h1
      omega
    clear hown hbel
    by_cases h0 : R = 0
    · have e0 : ¬ (0 : Int) < ((canN R).length : Int) := by have := canN_len0.2 h0; omega
      have HD := Lib.hid (show D = digR x by have := HR.out.2.2.1; rwa [h0, digR_zero, List.append_nil] at this)
      clear h0
      have hDl : 0 < D.length := by
        rw [HD.out, digR_pos hx0]; simp
      have hDb : Byte D := fun a ha => by
        rw [HD.out] at ha
        have := digR_byte x a ha
        omega
      have HDL := Lib.hid hDl
      have HDB := Lib.hid hDb
      clear hDl hDb
      cases sp
      · obtain ⟨g, cc, rfl, hcc, hg, hbuf⟩ := Bub.of_own HOW.out (fun e => by have := HDL.out; rw [e] at this; simp at this)
        obtain ⟨N, hN⟩ : ∃ N, N = D.length := ⟨_, rfl⟩
        rw [← hN] at hcc ⊢
        have HN := Lib.hid hN
        have HBU := Lib.hid hbuf
        have HG := Lib.hid hg
        have HBY := HDB
        have HBC := HBE
        have hNl0 : N ≤ 10 * n + 1 := by omega
        clear hbuf hg hN
        have hNl : N ≤ 10 * n + 1 := by omega
        have N0 : (0 : Int) ≤ (N : Int) := by omega
        have N1 : (N : Int) ≤ 1000001 := by omega
        go_wp2_with fail
        go_loopw [10, 11] (fun vi vk wr => ∃ (i : Nat) (C : List Int), 2 * i ≤ N ∧ vi = .int .i64 i ∧ vk = .int .i64 ((N : Int) - 1 - (i : Int)) ∧ Bub wr g C ∧ Hid (RevI D C N i ∧ Byte C) ∧ Below w2.heap.size w2 wr) (fun vi _ _ => N - (intOf vi).toNat)
        case atStart => exact ⟨0, D, by omega, rfl, by simp, HBU.out, Lib.hid ⟨rev_start HN.out, HBY.out⟩, HBC.out⟩
        case round =>
          obtain ⟨i, C, hi, rfl, rfl, hbu, HRI, hbel⟩ := hrel
          have HBE6 := Lib.hid hbel
          have HBU6 := Lib.hid hbu
          have hz6 := hbel.size
          have i0 : (0 : Int) ≤ (i : Int) := by omega
          have i1 : (i : Int) ≤ 1000001 := by omega
          have hCl := HRI.out.1.1
          clear hbel
          by_cases hik : 2 * i + 1 < N
          · obtain ⟨k, hk⟩ : ∃ k, k = N - 1 - i := ⟨_, rfl⟩
            have e1 : (N : Int) - 1 - (i : Int) = (k : Int) := by omega
            rw [e1]
            have j1 : (i : Int) < (k : Int) := by omega
            have j2 : (i : Int) < (N : Int) := by omega
            have j3 : (k : Int) < (N : Int) := by omega
            have j4 : (0 : Int) ≤ (k : Int) := by omega
            obtain ⟨x1, hx1⟩ : ∃ x1, C[i]? = some x1 := ⟨C[i]'(by omega), by simp⟩
            obtain ⟨y1, hy1⟩ : ∃ y1, C[k]? = some y1 := ⟨C[k]'(by omega), by simp⟩
            have cx := hbu.2.1 _ _ hx1
            have cy := hbu.2.1 _ _ hy1
            have cf := hbu.2.2
            have cl := hbu.1
            have hne : ¬ i = k := by omega
            have hne' : ¬ k = i := by omega
            have hkN : N - 1 - i = k := hk.symm
            have hst := rev_step HRI.out.1 HN.out hik hx1 (by rw [hkN]; exact hy1)
            rw [hkN] at hst
            have HST := Lib.hid hst
            have HXY := Lib.hid (And.intro hx1 hy1)
            have e2 : (N : Int) - 1 - ((i + 1 : Nat) : Int) = (k : Int) - 1 := by omega
            have E2 := Lib.hid e2
            clear hx1 hy1 hk hkN hst hbu hCl e1 e2
            go_wp2_with fail
            refine pin_wp (N := _) (Nat.le_refl _) (fun w10 hb_w10 hz_w10 => ?_)
            have HBU10 := Lib.hid (HBU6.out.below hb_w10)
            have HBE10 := Lib.hid (HBE6.out.trans (hb_w10.mono hz6))
            have cx := HBU10.out.2.1 _ _ HXY.out.1
            have cy := HBU10.out.2.1 _ _ HXY.out.2
            have cf := HBU10.out.2.2
            have cl := HBU10.out.1
            clear hb_w10 hz_w10
            go_region
            go_wp2_with fail
            go_roundw
            case rel =>
              have hb1 := (HBU10.out.set HXY.out.1 y1)
              have hb2 := hb1.set (show (C.set i y1)[k]? = some y1 by rw [List.getElem?_set_ne hne]; exact HXY.out.2) x1
              have hx9 := HRI.out.2 x1 (List.mem_of_getElem? HXY.out.1)
              have hy9 := HRI.out.2 y1 (List.mem_of_getElem? HXY.out.2)
              have hbb := ((HBE10.out.setCell (p := ⟨g, i, none⟩) HG.out (.int .u8 y1)).setCell (p := ⟨g, k, none⟩) HG.out (.int .u8 x1))
              exact ⟨i + 1, (C.set i y1).set k x1, by omega, by go_num, by rw [E2.out], by first | exact hb2 | exact hb2.drew, Lib.hid ⟨HST.out, (HRI.out.2.set _ hy9.1 hy9.2).set _ hx9.1 hx9.2⟩, by first | exact hbb | exact hbb.drew⟩
            case measure => simp [intOf]; omega
          · have j1 : ¬ (i : Int) < (N : Int) - 1 - (i : Int) := by omega
            have hfin := rev_end HRI.out.1 HN.out hi (by omega)
            have hcv := run_bytes_string wr g N cc C HRI.out.2 hCl hbu.2.1
            have HF := Lib.hid (show C = (if false = true then [45] else []) ++ (digR x).reverse by rw [hfin]; rw [HD.out]; rfl)
            clear hbu hCl hfin
            go_wp2_with fail
            go_ret
            exact ⟨by have e := HF.out; subst e; rfl, HB2.out.trans (HBE6.out.mono HB2.out.size)⟩
      · go_wp2_with (at_builtin; go_must (refine wpList_append_bytes rfl _ _ rfl w2.heap.size _ D rfl (HOW.out.alloc _) (some ⟨wo.heap.size, 0, none⟩) 1 [45] rfl (bat_one (by simp) (by go_simp)) (by simp; omega) (by simp; omega) ?_))
        intro v5 w5 hown5 hg5
        have HB5 := Lib.hid ((HBE.out.alloc hz _).grown hg5 (by simp; omega) HOW.out.fresh)
        obtain ⟨g, cc, rfl, hcc, hg, hbuf⟩ := Bub.of_own hown5 (by simp)
        obtain ⟨N, hN⟩ : ∃ N, N = (D ++ [45]).length := ⟨_, rfl⟩
        rw [← hN] at hcc ⊢
        have HN := Lib.hid hN
        have hN2 : N = D.length + 1 := by rw [hN]; simp
        have HBU := Lib.hid hbuf
        have HG := Lib.hid hg
        have HBY := Lib.hid (show Byte (D ++ [45]) from fun a ha => by
          rcases List.mem_append.1 ha with h | h
          · exact HDB.out a h
          · simp at h; omega)
        have HBC := HB5
        have hNl0 : N ≤ 10 * n + 1 := by omega
        clear hbuf hg hN hown5 hg5 hN2
        have hNl : N ≤ 10 * n + 1 := by omega
        have N0 : (0 : Int) ≤ (N : Int) := by omega
        have N1 : (N : Int) ≤ 1000001 := by omega
        go_wp2_with fail
        go_loopw [10, 11] (fun vi vk wr => ∃ (i : Nat) (C : List Int), 2 * i ≤ N ∧ vi = .int .i64 i ∧ vk = .int .i64 ((N : Int) - 1 - (i : Int)) ∧ Bub wr g C ∧ Hid (RevI (D ++ [45]) C N i ∧ Byte C) ∧ Below w2.heap.size w2 wr) (fun vi _ _ => N - (intOf vi).toNat)
        case atStart => exact ⟨0, D ++ [45], by omega, rfl, by simp, HBU.out, Lib.hid ⟨rev_start HN.out, HBY.out⟩, HBC.out⟩
        case round =>
          obtain ⟨i, C, hi, rfl, rfl, hbu, HRI, hbel⟩ := hrel
          have HBE6 := Lib.hid hbel
          have HBU6 := Lib.hid hbu
          have hz6 := hbel.size
          have i0 : (0 : Int) ≤ (i : Int) := by omega
          have i1 : (i : Int) ≤ 1000001 := by omega
          have hCl := HRI.out.1.1
          clear hbel
          by_cases hik : 2 * i + 1 < N
          · obtain ⟨k, hk⟩ : ∃ k, k = N - 1 - i := ⟨_, rfl⟩
            have e1 : (N : Int) - 1 - (i : Int) = (k : Int) := by omega
            rw [e1]
            have j1 : (i : Int) < (k : Int) := by omega
            have j2 : (i : Int) < (N : Int) := by omega
            have j3 : (k : Int) < (N : Int) := by omega
            have j4 : (0 : Int) ≤ (k : Int) := by omega
            obtain ⟨x1, hx1⟩ : ∃ x1, C[i]? = some x1 := ⟨C[i]'(by omega), by simp⟩
            obtain ⟨y1, hy1⟩ : ∃ y1, C[k]? = some y1 := ⟨C[k]'(by omega), by simp⟩
            have cx := hbu.2.1 _ _ hx1
            have cy := hbu.2.1 _ _ hy1
            have cf := hbu.2.2
            have cl := hbu.1
            have hne : ¬ i = k := by omega
            have hne' : ¬ k = i := by omega
            have hkN : N - 1 - i = k := hk.symm
            have hst := rev_step HRI.out.1 HN.out hik hx1 (by rw [hkN]; exact hy1)
            rw [hkN] at hst
            have HST := Lib.hid hst
            have HXY := Lib.hid (And.intro hx1 hy1)
            have e2 : (N : Int) - 1 - ((i + 1 : Nat) : Int) = (k : Int) - 1 := by omega
            have E2 := Lib.hid e2
            clear hx1 hy1 hk hkN hst hbu hCl e1 e2
            go_wp2_with fail
            refine pin_wp (N := _) (Nat.le_refl _) (fun w10 hb_w10 hz_w10 => ?_)
            have HBU10 := Lib.hid (HBU6.out.below hb_w10)
            have HBE10 := Lib.hid (HBE6.out.trans (hb_w10.mono hz6))
            have cx := HBU10.out.2.1 _ _ HXY.out.1
            have cy := HBU10.out.2.1 _ _ HXY.out.2
            have cf := HBU10.out.2.2
            have cl := HBU10.out.1
            clear hb_w10 hz_w10
            go_region
            go_wp2_with fail
            go_roundw
            case rel =>
              have hb1 := (HBU10.out.set HXY.out.1 y1)
              have hb2 := hb1.set (show (C.set i y1)[k]? = some y1 by rw [List.getElem?_set_ne hne]; exact HXY.out.2) x1
              have hx9 := HRI.out.2 x1 (List.mem_of_getElem? HXY.out.1)
              have hy9 := HRI.out.2 y1 (List.mem_of_getElem? HXY.out.2)
              have hbb := ((HBE10.out.setCell (p := ⟨g, i, none⟩) HG.out (.int .u8 y1)).setCell (p := ⟨g, k, none⟩) HG.out (.int .u8 x1))
              exact ⟨i + 1, (C.set i y1).set k x1, by omega, by go_num, by rw [E2.out], by first | exact hb2 | exact hb2.drew, Lib.hid ⟨HST.out, (HRI.out.2.set _ hy9.1 hy9.2).set _ hx9.1 hx9.2⟩, by first | exact hbb | exact hbb.drew⟩
            case measure => simp [intOf]; omega
          · have j1 : ¬ (i : Int) < (N : Int) - 1 - (i : Int) := by omega
            have hfin := rev_end HRI.out.1 HN.out hi (by omega)
            have hcv := run_bytes_string wr g N cc C HRI.out.2 hCl hbu.2.1
            have HF := Lib.hid (show C = (if true = true then [45] else []) ++ (digR x).reverse by rw [hfin]; rw [HD.out, List.reverse_append]; rfl)
            clear hbu hCl hfin
            go_wp2_with fail
            go_ret
            exact ⟨by have e := HF.out; subst e; rfl, HB2.out.trans (HBE6.out.mono HB2.out.size)⟩
    · have hl0 : (canN R).length ≠ 0 := fun e => h0 (canN_len0.1 e)
      have e0 : (0 : Int) < ((canN R).length : Int) := by omega
      clear h0 hl0
      go_wp2_with fail
      -- own blocks: 
      (go_at_call 79; refine (wqsmall_any A3 (canN R) c3 1000000000 wo (canN_lim R) (by omega) HR.out.1 (by decide) (by decide)).mono ?_; rintro e w3 ⟨ql, r, rfl, hql, hqL, hqv, r0, r1, hrow, hb_w3⟩; have hz_w3 := hb_w3.size; (try simp at hz_w3); skip)
      rw [mv_canN] at hqv
      obtain ⟨Q, hQ⟩ : ∃ Q, Q = (mv ql).toNat := ⟨_, rfl⟩
      have hq0 := mv_nonneg hqL
      have htr := fun w' h => wtrimmed_any (some ⟨wo.heap.size, 0, none⟩) ql (canN R).length w' hqL h (by omega) (by omega)
      rw [hql, ← hQ] at htr
      have hlat : LAt w3 (some ⟨wo.heap.size, 0, none⟩) (canN Q) := by
        rw [hQ, ← canN_take_any hqL]; exact hrow.lat.take _
      have HTR := Lib.hid htr
      have HLA := Lib.hid hlat
      have HRL := Lib.hid hrow.lat
      have HQR := Lib.hid (show (R : Int) = (Q : Int) * 1000000000 + r by rw [hqv, hQ]; omega)
      have HW3 := Lib.hid hrow.lt
      have hql2 : (canN Q).length ≤ (canN R).length := by rw [hQ, ← hql]; exact canN_len_le hqL
      have hsep := HOW.out.lt
      have HSE := Lib.hid (show ∀ g o, (some ⟨wo.heap.size, 0, none⟩ : Option Addr) = some ⟨g, o, none⟩ → some g ≠ u5.ownBlock from fun g o he hh => by
        have h1 := hsep g hh.symm
        simp only [Option.some.injEq, Addr.mk.injEq] at he
        omega)
      have HOW3 := Lib.hid (HOW.out.below hb_w3)
      have HB3 := Lib.hid (HBE.out.trans (hb_w3.mono hz))
      have hz3 := HB3.out.size
      have hQlt : Q < R := by have h1 := HQR.out; have : (canN R).length ≠ 0 := by omega
                              have h2 : R ≠ 0 := fun e => this (canN_len0.2 e)
                              omega
      clear hql hqL hqv hrow hb_w3 hq0 hlat htr hsep hQ
      go_wp2_with fail
      (go_at_call 80; refine (HTR.out _ HRL.out).mono ?_; rintro e w9 ⟨rfl, rfl⟩)
      go_wp2_with fail
      by_cases hQ0 : Q = 0
      · have hq := canN_len0.2 hQ0
        rw [hq]
        have HQ0 := Lib.hid hQ0
        have HQL := Lib.hid hq
        clear hQ0 hq
        go_loopw [5, 8, 9] (fun vo vr vi ws => ∃ (i s : Nat) (r : Int) (D' : List Int), i ≤ 9 ∧ vi = .int .i64 i ∧ vr = .int .u32 r ∧ 0 ≤ r ∧ r < 1000000000 ∧ OwnB ws w2.heap.size vo D' ∧ w3.heap.size ≤ ws.heap.size ∧ Hid (LAt ws (some ⟨wo.heap.size, 0, none⟩) (canN Q) ∧ r = (s : Int) ∧ s < 10 ^ (9 - i) ∧ D' ++ digR (Q * 10 ^ (9 - i) + s) = digR x ∧ ∀ g o, (some ⟨wo.heap.size, 0, none⟩ : Option Addr) = some ⟨g, o, none⟩ → some g ≠ vo.ownBlock) ∧ Below w2.heap.size w2 ws) (fun _ _ vi _ => (9 - (intOf vi).toNat))
        case atStart => exact ⟨0, r.toNat, r, D, by omega, rfl, rfl, r0, r1, HOW3.out, Nat.le_refl _, Lib.hid ⟨HLA.out, by omega, by simp; omega, by
          have h1 : Q * 10 ^ (9 - 0) + r.toNat = R := by have := HQR.out; simp; omega
          rw [h1]; exact HR.out.2.2.1, HSE.out⟩, HB3.out⟩
        case round =>
          obtain ⟨i, s, r', D', hi, rfl, rfl, s0, s1, hown, hsz3, HI, hbel⟩ := hrel
          have HOW4 := Lib.hid hown
          have HBE4 := Lib.hid hbel
          have hz4 := hbel.size
          have i0 : (0 : Int) ≤ (i : Int) := by omega
          have hdl3 : D'.length ≤ 10 * n := by
            have h1 := congrArg List.length HI.out.2.2.2.1
            rw [List.length_append] at h1
            omega
          clear hown hbel
          by_cases hi9 : i < 9
          · have j1 : (i : Int) < 9 := by omega
            by_cases hgo : 0 < Q * 10 ^ (9 - i) + s
            · have e2 : (0 : Int) < r' := by have := HI.out.2.1; have hq := HQ0.out; rw [hq, Nat.zero_mul] at hgo; omega
              obtain ⟨m, hm⟩ : ∃ m, 9 - i = m + 1 := ⟨9 - i - 1, by omega⟩
              have hst := HI.out.2.2.2.1
              rw [hm] at hst hgo
              rw [digR_step hgo] at hst
              have hm2 : 9 - (i + 1) = m := by omega
              have HST := Lib.hid hst
              have hs10 := HI.out.2.2.1
              rw [hm, Nat.pow_succ] at hs10
              have HRS := Lib.hid (And.intro HI.out.2.1 hs10)
              have HM2 := Lib.hid hm2
              obtain ⟨dd, hdd⟩ : ∃ dd, dd = 48 + r' % 10 := ⟨_, rfl⟩
              have d0 : 48 ≤ dd := by omega
              have d1 : dd < 58 := by omega
              have d2 : dd % 256 = dd := by omega
              have hdd' := hdd.symm
              have hds : ((48 + s % 10 : Nat) : Int) = dd := by rw [hdd, HI.out.2.1]; omega
              have HDS := Lib.hid hds
              clear hgo hst hs10 hm hm2 hdd hds
              go_wp2_with (at_builtin; go_must (refine wpList_append_bytes2 rfl _ _ rfl w2.heap.size _ D' rfl (HOW4.out.alloc _) (some ⟨wr.heap.size, 0, none⟩) 1 [dd] rfl (bat_one (by simp) (by go_simp)) (by simp; omega) (by simp; omega) ?_))
              all_goals
                intro v5 w5 hown5 hg5 hat5
                have HB5 := Lib.hid ((HBE4.out.alloc hz4 _).grown hg5 (by simp; omega) HOW4.out.fresh)
                have hsz5 : wr.heap.size ≤ w5.heap.size := by have := hg5.size; simp at this; omega
                have HL5 := Lib.hid ((HI.out.1.alloc _).grown hg5 HI.out.2.2.2.2)
                have hlt5 : wo.heap.size < wr.heap.size := by have := HW3.out; omega
                have HLT := Lib.hid hlt5
                have HO5 := Lib.hid hown5
                have HSE5 := Lib.hid (show ∀ g o, (some ⟨wo.heap.size, 0, none⟩ : Option Addr) = some ⟨g, o, none⟩ → some g ≠ v5.ownBlock from fun g o he hh => by
                  rcases hat5 with h1 | h1
                  · rw [h1] at hh; exact HI.out.2.2.2.2 g o he hh
                  · rw [h1] at hh
                    simp only [Option.some.injEq, Addr.mk.injEq] at he hh
                    omega)
                clear hg5 hown5 hat5 hlt5
                go_wp2_with fail
                go_roundw
                case rel => exact ⟨i + 1, s / 10, r' / 10, D' ++ [dd], by omega, by go_num, rfl, by omega, by omega, HO5.out, by have := hsz5; omega, Lib.hid ⟨HL5.out, by have := HRS.out.1; omega, by rw [HM2.out]; have := HRS.out.2; omega, by rw [HM2.out, List.append_assoc, ← HDS.out]; exact HST.out, HSE5.out⟩, HB5.out⟩
                case measure => simp [intOf]; omega
            · have hq := HQ0.out
              rw [hq, Nat.zero_mul] at hgo
              have hs0 : s = 0 := by omega
              have e2 : ¬ (0 : Int) < r' := by have := HI.out.2.1; omega
              have HF := Lib.hid (show D' ++ digR Q = digR x by
                have := HI.out.2.2.2.1
                rwa [hq, hs0, Nat.zero_mul, Nat.add_zero, ← hq] at this)
              clear hgo hq hs0
              go_wp2_with fail
              go_roundg Q
              case measure => exact hQlt
              case rel => exact ⟨Q, some ⟨wo.heap.size, 0, none⟩, _, D', rfl, by rw [HQL.out], HOW4.out, Lib.hid ⟨HI.out.1, hql2, HF.out, HI.out.2.2.2.2⟩, by omega, HBE4.out⟩
          · have j1 : ¬ (i : Int) < 9 := by omega
            have HF := Lib.hid (show D' ++ digR Q = digR x by
              have h1 := HI.out.2.2.1
              have h2 := HI.out.2.2.2.1
              rw [show 9 - i = 0 by omega] at h1 h2
              rw [show s = 0 by simpa using h1, Nat.pow_zero, Nat.mul_one, Nat.add_zero] at h2
              exact h2)
            go_wp2_with fail
            go_roundg Q
            case measure => exact hQlt
            case rel => exact ⟨Q, some ⟨wo.heap.size, 0, none⟩, _, D', rfl, by rw [HQL.out], HOW4.out, Lib.hid ⟨HI.out.1, hql2, HF.out, HI.out.2.2.2.2⟩, by omega, HBE4.out⟩
      · have hq1 : (canN Q).length ≠ 0 := fun e => hQ0 (canN_len0.1 e)
        have e1 : decide ((0 : Int) < ((canN Q).length : Int)) = true := by rw [decide_eq_true_eq]; omega
        have e4 : decide (0 < (canN Q).length) = true := by rw [decide_eq_true_eq]; omega
        have e5 : (canN Q).isEmpty = false := by cases hc : canN Q with | nil => exact absurd (by rw [hc]; rfl) hq1 | cons a t => rfl
        have e6 : 0 < (canN Q).length := by omega
        have HQ0 := Lib.hid hQ0
        clear hQ0 hq1
        go_loopw [5, 8, 9] (fun vo vr vi ws => ∃ (i s : Nat) (r : Int) (D' : List Int), i ≤ 9 ∧ vi = .int .i64 i ∧ vr = .int .u32 r ∧ 0 ≤ r ∧ r < 1000000000 ∧ OwnB ws w2.heap.size vo D' ∧ w3.heap.size ≤ ws.heap.size ∧ Hid (LAt ws (some ⟨wo.heap.size, 0, none⟩) (canN Q) ∧ r = (s : Int) ∧ s < 10 ^ (9 - i) ∧ D' ++ digR (Q * 10 ^ (9 - i) + s) = digR x ∧ ∀ g o, (some ⟨wo.heap.size, 0, none⟩ : Option Addr) = some ⟨g, o, none⟩ → some g ≠ vo.ownBlock) ∧ Below w2.heap.size w2 ws) (fun _ _ vi _ => (9 - (intOf vi).toNat))
        case atStart => exact ⟨0, r.toNat, r, D, by omega, rfl, rfl, r0, r1, HOW3.out, Nat.le_refl _, Lib.hid ⟨HLA.out, by omega, by simp; omega, by
          have h1 : Q * 10 ^ (9 - 0) + r.toNat = R := by have := HQR.out; simp; omega
          rw [h1]; exact HR.out.2.2.1, HSE.out⟩, HB3.out⟩
        case round =>
          obtain ⟨i, s, r', D', hi, rfl, rfl, s0, s1, hown, hsz3, HI, hbel⟩ := hrel
          have HOW4 := Lib.hid hown
          have HBE4 := Lib.hid hbel
          have hz4 := hbel.size
          have i0 : (0 : Int) ≤ (i : Int) := by omega
          have hdl3 : D'.length ≤ 10 * n := by
            have h1 := congrArg List.length HI.out.2.2.2.1
            rw [List.length_append] at h1
            omega
          clear hown hbel
          by_cases hi9 : i < 9
          · have j1 : (i : Int) < 9 := by omega
            have hgo : 0 < Q * 10 ^ (9 - i) + s := by
              have : 0 < Q * 10 ^ (9 - i) := Nat.mul_pos (Nat.pos_of_ne_zero HQ0.out) (Nat.pow_pos (by decide))
              omega
            obtain ⟨m, hm⟩ : ∃ m, 9 - i = m + 1 := ⟨9 - i - 1, by omega⟩
            have hst := HI.out.2.2.2.1
            rw [hm] at hst hgo
            rw [digR_step hgo] at hst
            have hm2 : 9 - (i + 1) = m := by omega
            have HST := Lib.hid hst
            have hs10 := HI.out.2.2.1
            rw [hm, Nat.pow_succ] at hs10
            have HRS := Lib.hid (And.intro HI.out.2.1 hs10)
            have HM2 := Lib.hid hm2
            obtain ⟨dd, hdd⟩ : ∃ dd, dd = 48 + r' % 10 := ⟨_, rfl⟩
            have d0 : 48 ≤ dd := by omega
            have d1 : dd < 58 := by omega
            have d2 : dd % 256 = dd := by omega
            have hdd' := hdd.symm
            have hds : ((48 + s % 10 : Nat) : Int) = dd := by rw [hdd, HI.out.2.1]; omega
            have HDS := Lib.hid hds
            clear hgo hst hs10 hm hm2 hdd hds
            go_wp2_with (at_builtin; go_must (refine wpList_append_bytes2 rfl _ _ rfl w2.heap.size _ D' rfl (HOW4.out.alloc _) (some ⟨wr.heap.size, 0, none⟩) 1 [dd] rfl (bat_one (by simp) (by go_simp)) (by simp; omega) (by simp; omega) ?_))
            all_goals
              intro v5 w5 hown5 hg5 hat5
              have HB5 := Lib.hid ((HBE4.out.alloc hz4 _).grown hg5 (by simp; omega) HOW4.out.fresh)
              have hsz5 : wr.heap.size ≤ w5.heap.size := by have := hg5.size; simp at this; omega
              have HL5 := Lib.hid ((HI.out.1.alloc _).grown hg5 HI.out.2.2.2.2)
              have hlt5 : wo.heap.size < wr.heap.size := by have := HW3.out; omega
              have HLT := Lib.hid hlt5
              have HO5 := Lib.hid hown5
              have HSE5 := Lib.hid (show ∀ g o, (some ⟨wo.heap.size, 0, none⟩ : Option Addr) = some ⟨g, o, none⟩ → some g ≠ v5.ownBlock from fun g o he hh => by
                rcases hat5 with h1 | h1
                · rw [h1] at hh; exact HI.out.2.2.2.2 g o he hh
                · rw [h1] at hh
                  simp only [Option.some.injEq, Addr.mk.injEq] at he hh
                  omega)
              clear hg5 hown5 hat5 hlt5
              go_wp2_with fail
              go_roundw
              case rel => exact ⟨i + 1, s / 10, r' / 10, D' ++ [dd], by omega, by go_num, rfl, by omega, by omega, HO5.out, by have := hsz5; omega, Lib.hid ⟨HL5.out, by have := HRS.out.1; omega, by rw [HM2.out]; have := HRS.out.2; omega, by rw [HM2.out, List.append_assoc, ← HDS.out]; exact HST.out, HSE5.out⟩, HB5.out⟩
              case measure => simp [intOf]; omega
          · have j1 : ¬ (i : Int) < 9 := by omega
            have HF := Lib.hid (show D' ++ digR Q = digR x by
              have h1 := HI.out.2.2.1
              have h2 := HI.out.2.2.2.1
              rw [show 9 - i = 0 by omega] at h1 h2
              rw [show s = 0 by simpa using h1, Nat.pow_zero, Nat.mul_one, Nat.add_zero] at h2
              exact h2)
            go_wp2_with fail
            go_roundg Q
            case measure => exact hQlt
            case rel => exact ⟨Q, some ⟨wo.heap.size, 0, none⟩, _, D', rfl, rfl, HOW4.out, Lib.hid ⟨HI.out.1, hql2, HF.out, HI.out.2.2.2.2⟩, by omega, HBE4.out⟩
theorem wtext_any (n : Nat) (v : Value) (z : Int) (w : World) (h : IsZ w v n z) (hn : n ≤ 100000) :
    Calls Try.prog 52 #[v] w fun e w' => e = .returned (.string (strOf (textR z))) ∧ Below w.heap.size w w' := by
  by_cases h0 : z = 0
  · subst h0; exact wtext_zero n v w h hn
  · exact wtext_pos n v z w h hn h0
end Go.Proofs.Ytadkcipjcmkoiaa
