/- Plain: the text of a number is a word of that number, and is as short as any. -/
import Derived.Test.YteondblmcooklaaDoorSrcS
import Derived.Lib.ItoaMem
namespace Go.Proofs.YteondblmcooklaaDoor
open Go
set_option linter.unusedVariables false
def satF (M : Int) : Int → List UInt8 → Int
  | v, [] => v
  | v, d :: l => satF M (min (10 * v + ((d.toNat : Int) - 48)) M) l
theorem satF_app (M : Int) : ∀ (l m : List UInt8) (v : Int), satF M v (l ++ m) = satF M (satF M v l) m
  | [], m, v => rfl
  | d :: l, m, v => satF_app M l m _
/-- A run of digits in a text. -/
theorem run_digits (M : Int) (s : ByteArray) : ∀ (l : List UInt8) (i : Nat) (v : Int), (∀ j d, l[j]? = some d → cOf s (i + j) = (d.toNat : Int) ∧ digB (d.toNat : Int) = true) → i + l.length ≤ s.size → (i + l.length < s.size → digB (cOf s (i + l.length)) = false) →
    run digB s i = i + l.length ∧ num M s i v = satF M v l
  | [], i, v, h, hl, he => by
    have hn : ¬ (i < s.size ∧ digB (cOf s i) = true) := fun ⟨a, b⟩ => by
      have := he (by simpa using a)
      simp only [List.length_nil, Nat.add_zero] at this
      rw [this] at b; cases b
    exact ⟨run_stop hn, num_stop hn⟩
  | d :: l, i, v, h, hl, he => by
    simp only [List.length_cons] at hl he
    obtain ⟨h1, h2⟩ := h 0 d rfl
    rw [Nat.add_zero] at h1
    rw [← h1] at h2
    obtain ⟨h3, h4⟩ := run_digits M s l (i + 1) (min (10 * v + (cOf s i - 48)) M) (fun j e hj => by
      have := h (j + 1) e (by simpa using hj)
      rw [show i + 1 + j = i + (j + 1) by omega]
      exact this) (by omega) (fun hlt => by
      rw [show i + 1 + l.length = i + (l.length + 1) by omega] at hlt ⊢
      exact he hlt)
    rw [run_step (by omega) h2] at h3
    rw [num_step (by omega) h2] at h4
    rw [h3, h4, h1]
    exact ⟨by simp only [List.length_cons]; omega, rfl⟩
theorem dec_digit : ∀ (u : Nat), ∀ d ∈ Lib.decDigits u, digB (d.toNat : Int) = true := by
  intro u
  have key : ∀ v, v < 10 → digB (((UInt8.ofNat (48 + v)).toNat : Nat) : Int) = true := by decide
  induction u using Nat.strongRecOn with
  | _ u ih =>
    intro d hd
    by_cases h : u < 10
    · rw [Lib.decDigits_one h, List.mem_singleton] at hd
      subst hd
      exact key u h
    · rw [Lib.decDigits, dif_neg h, List.mem_append, List.mem_singleton] at hd
      rcases hd with hd | rfl
      · exact ih (u / 10) (by omega) d hd
      · exact key _ (by omega)
theorem sat_dec (M : Nat) (u : Nat) (hu : u ≤ M) : satF M 0 (Lib.decDigits u) = u := by
  have key : ∀ v, v < 10 → ((UInt8.ofNat (48 + v)).toNat : Int) - 48 = v := by decide
  induction u using Nat.strongRecOn with
  | _ u ih =>
    by_cases h : u < 10
    · rw [Lib.decDigits_one h]
      simp only [satF]
      rw [key u h]
      omega
    · rw [Lib.decDigits, dif_neg h, satF_app, ih (u / 10) (by omega) (by omega)]
      simp only [satF]
      rw [key _ (by omega)]
      omega
theorem dec_ne (u : Nat) : 0 < (Lib.decDigits u).length := by rw [Lib.decDigits_length]; exact Lib.nDigits_pos u
theorem bytes_at (l : List UInt8) (x : ByteArray) (j : Nat) (d : UInt8) (h : l[j]? = some d) : cOf ((⟨l.toArray⟩ : ByteArray) ++ x) j = (d.toNat : Int) := by
  have hj : j < l.length := (List.getElem?_eq_some_iff.1 h).1
  rw [cOf_app_left _ _ (by show j < l.toArray.size; simpa using hj)]
  unfold cOf byteAt
  rw [List.getD_eq_getElem?_getD]
  simp [h]
theorem stop_not {x : ByteArray} (h : x.size = 0 ∨ stopC (cOf x 0)) (l : List UInt8) : (⟨l.toArray⟩ : ByteArray).size < ((⟨l.toArray⟩ : ByteArray) ++ x).size → digB (cOf ((⟨l.toArray⟩ : ByteArray) ++ x) l.length) = false ∧ letB (cOf ((⟨l.toArray⟩ : ByteArray) ++ x) l.length) = false := by
  intro hl
  have hs : (⟨l.toArray⟩ : ByteArray).size = l.length := by show l.toArray.size = _; simp
  have h1 : cOf ((⟨l.toArray⟩ : ByteArray) ++ x) l.length = cOf x 0 := by
    have := cOf_app (⟨l.toArray⟩ : ByteArray) x 0
    rw [Nat.add_zero, hs] at this
    exact this
  rw [h1]
  rcases h with h | h
  · rw [size_app] at hl; omega
  · unfold stopC at h
    rcases h with h | h | h <;> rw [h] <;> exact ⟨rfl, rfl⟩
/-- The text of a number is a word. -/
theorem isA_itoa (n : Int) (h1 : -1073741824 ≤ n) (h2 : n ≤ 1073741824) : IsA 2 ⟨(Lib.itoa n).toArray⟩ n := by
  have hsz : ∀ l : List UInt8, (⟨l.toArray⟩ : ByteArray).size = l.length := fun l => by show l.toArray.size = _; simp
  by_cases hn : n < 0
  · obtain ⟨u, rfl⟩ : ∃ u : Nat, n = -(u : Int) := ⟨n.natAbs, by omega⟩
    have hu : 1 ≤ u := by omega
    have hd := dec_ne u
    rw [Lib.itoa_neg u hu]
    have h0 : ∀ x : ByteArray, cOf ((⟨(45 :: Lib.decDigits u).toArray⟩ : ByteArray) ++ x) 0 = 45 := fun x => by rw [bytes_at _ x 0 45 rfl]; rfl
    have h00 : cOf (⟨(45 :: Lib.decDigits u).toArray⟩ : ByteArray) 0 = 45 := by have := h0 ⟨#[]⟩; rwa [app_nil] at this
    refine ⟨by rw [hsz]; simp, by rw [h00]; decide, by rw [h00]; decide, fun x hx => ?_⟩
    have hx' : x.size = 0 ∨ stopC (cOf x 0) := hx.resolve_left (by decide)
    have hst := stop_not hx' (45 :: Lib.decDigits u)
    rw [hsz] at hst ⊢
    have hsa : ((⟨(45 :: Lib.decDigits u).toArray⟩ : ByteArray) ++ x).size = (45 :: Lib.decDigits u).length + x.size := by rw [size_app, hsz]
    have hlen : (45 :: Lib.decDigits u).length = 1 + (Lib.decDigits u).length := by simp; omega
    obtain ⟨hr, hm⟩ := run_digits 1073741825 ((⟨(45 :: Lib.decDigits u).toArray⟩ : ByteArray) ++ x) (Lib.decDigits u) 1 0 (fun j d hj => ⟨by rw [bytes_at _ x (1 + j) d (by rw [Nat.add_comm]; simpa using hj)], dec_digit u d (List.mem_of_getElem? hj)⟩) (by omega) (fun hlt => by rw [← hlen] at hlt ⊢; exact (hst hlt).1)
    rw [show (1073741825 : Int) = ((1073741825 : Nat) : Int) from rfl, sat_dec _ _ (by omega)] at hm
    rw [wr_num (f := 1) (e := (45 :: Lib.decDigits u).length) (n := (u : Int)) (by rw [h0]; decide) (by rw [h0]; rfl) (by rw [h0]; rfl) (by rw [hr, hlen]) (by omega) hm (by omega) (fun hh => by have := (hst hh.1).2; rw [this] at hh; cases hh.2)]
    rw [h0, if_pos rfl]
    congr 1
    have := cut_head (⟨(45 :: Lib.decDigits u).toArray⟩ : ByteArray) x
    rwa [hsz] at this
  · obtain ⟨u, rfl⟩ : ∃ u : Nat, n = (u : Int) := ⟨n.toNat, by omega⟩
    have hd := dec_ne u
    rw [Lib.itoa_nonneg u]
    obtain ⟨d0, l0, hdl⟩ : ∃ d l, Lib.decDigits u = d :: l := by
      cases h : Lib.decDigits u with
      | nil => rw [h] at hd; simp at hd
      | cons d l => exact ⟨d, l, rfl⟩
    have hdd := dec_digit u d0 (by rw [hdl]; simp)
    have hdb : 48 ≤ (d0.toNat : Int) ∧ (d0.toNat : Int) ≤ 57 := by unfold digB at hdd; simpa using hdd
    have h0 : ∀ x : ByteArray, cOf ((⟨(Lib.decDigits u).toArray⟩ : ByteArray) ++ x) 0 = (d0.toNat : Int) := fun x => bytes_at _ x 0 d0 (by rw [hdl]; rfl)
    have h00 : cOf (⟨(Lib.decDigits u).toArray⟩ : ByteArray) 0 = (d0.toNat : Int) := by have := h0 ⟨#[]⟩; rwa [app_nil] at this
    refine ⟨by rw [hsz]; omega, by rw [h00]; omega, by rw [h00]; omega, fun x hx => ?_⟩
    have hx' : x.size = 0 ∨ stopC (cOf x 0) := hx.resolve_left (by decide)
    have hst := stop_not hx' (Lib.decDigits u)
    rw [hsz] at hst ⊢
    have hsa : ((⟨(Lib.decDigits u).toArray⟩ : ByteArray) ++ x).size = (Lib.decDigits u).length + x.size := by rw [size_app, hsz]
    obtain ⟨hr, hm⟩ := run_digits 1073741825 ((⟨(Lib.decDigits u).toArray⟩ : ByteArray) ++ x) (Lib.decDigits u) 0 0 (fun j d hj => ⟨by rw [Nat.zero_add]; exact bytes_at _ x j d hj, dec_digit u d (List.mem_of_getElem? hj)⟩) (by omega) (fun hlt => by rw [Nat.zero_add] at hlt ⊢; exact (hst hlt).1)
    rw [show (1073741825 : Int) = ((1073741825 : Nat) : Int) from rfl, sat_dec _ _ (by omega)] at hm
    rw [Nat.zero_add] at hr
    rw [wr_num (f := 0) (e := (Lib.decDigits u).length) (n := (u : Int)) (by rw [h0]; omega) (by rw [h0]; unfold letB; simp; omega) (by rw [h0, if_neg (by omega)]) hr (by omega) hm (by omega) (fun hh => by have := (hst hh.1).2; rw [this] at hh; cases hh.2)]
    rw [h0, if_neg (by omega)]
    congr 1
    have := cut_head (⟨(Lib.decDigits u).toArray⟩ : ByteArray) x
    rwa [hsz] at this
theorem numTo_lt (M : Int) (hM : 0 ≤ M) (s : ByteArray) : ∀ f i (n : Int), 0 ≤ n → numTo M s f i n < (n + 1) * (10 : Int) ^ (runTo digB s f i - i)
  | 0, i, n, h => by simp [numTo, runTo]; omega
  | f + 1, i, n, h => by
    have hge := runTo_ge digB s f (i + 1)
    have hcb := cOf_bd s i
    simp only [numTo, runTo]
    split
    · rename_i hc
      have hd : digB (cOf s i) = true := by first | exact hc.2 | (simp only [Bool.and_eq_true] at hc; exact hc.2)
      have hb : 48 ≤ cOf s i ∧ cOf s i ≤ 57 := by unfold digB at hd; simpa using hd
      have ih := numTo_lt M hM s f (i + 1) (min (10 * n + (cOf s i - 48)) M) (by omega)
      have hp : (0 : Int) < (10 : Int) ^ (runTo digB s f (i + 1) - (i + 1)) := Int.pow_pos (by decide)
      rw [show runTo digB s f (i + 1) - i = (runTo digB s f (i + 1) - (i + 1)) + 1 by omega, Int.pow_succ]
      refine Int.lt_of_lt_of_le ih ?_
      rw [Int.mul_comm ((10 : Int) ^ _) 10, ← Int.mul_assoc]
      exact Int.mul_le_mul_of_nonneg_right (by omega) (Int.le_of_lt hp)
    · simp; omega
theorem nDigits_le : ∀ (k u : Nat), u < 10 ^ (k + 1) → Lib.nDigits u ≤ k + 1
  | 0, u, h => by rw [Lib.nDigits_small (by simpa using h)]; omega
  | k + 1, u, h => by
    by_cases h1 : u < 10
    · rw [Lib.nDigits_small h1]; omega
    · rw [Lib.nDigits_big h1]
      have := nDigits_le k (u / 10) (by rw [Nat.pow_succ] at h; omega)
      omega
/-- The text of a number that was read is as short as what was read. -/
theorem itoa_short {t : ByteArray} {n : Int} (h : IsA 2 t n) : (Lib.itoa n).length ≤ t.size := by
  obtain ⟨h0, _, _, hw⟩ := h
  have hw := hw ⟨#[]⟩ (.inr (.inl rfl))
  rw [app_nil] at hw
  unfold wordR at hw
  split at hw
  · cases hw
  · split at hw
    · split at hw <;> cases hw
    · obtain ⟨f, hf⟩ : ∃ f, f = if cOf t 0 = 45 then 0 + 1 else 0 := ⟨_, rfl⟩
      rw [← hf] at hw
      simp only at hw
      split at hw
      · cases hw
      · rename_i he
        split at hw
        · cases hw
        · rename_i hb
          split at hw
          · cases hw
          · simp only [WR.ok.injEq] at hw
            obtain ⟨_, _, hn, hsz⟩ := hw
            have hge := run_ge digB t f
            have hlt := numTo_lt 1073741825 (by decide) t (t.size - f) f 0 (by omega)
            have hnb := numTo_bd 1073741825 (by decide) t (t.size - f) f 0 (by omega) (by omega)
            obtain ⟨u, hu⟩ : ∃ u : Nat, num 1073741825 t f 0 = u := ⟨(num 1073741825 t f 0).toNat, by unfold num at *; omega⟩
            have hlt2 : u < 10 ^ ((t.size - f - 1) + 1) := by
              have h9 : (u : Int) < (10 : Int) ^ (t.size - f) := by
                rw [← hu]
                have h8 := hlt
                rw [show (0 : Int) + 1 = 1 by decide, Int.one_mul] at h8
                rw [show t.size - f = runTo digB t (t.size - f) f - f from by unfold run at hsz; rw [hsz]]
                exact h8
              rw [show t.size - f - 1 + 1 = t.size - f by omega]
              exact_mod_cast h9
            have hdig := nDigits_le _ _ hlt2
            rw [hu] at hn
            by_cases h45 : cOf t 0 = 45
            · rw [if_pos h45] at hn hf
              subst hn
              rcases Nat.eq_zero_or_pos u with h | h
              · subst h
                rw [show (-((0 : Nat) : Int)) = ((0 : Nat) : Int) from rfl, Lib.itoa_nonneg, Lib.decDigits_length]
                omega
              · rw [Lib.itoa_neg u h, List.length_cons, Lib.decDigits_length]
                omega
            · rw [if_neg h45] at hn hf
              subst hn
              rw [Lib.itoa_nonneg, Lib.decDigits_length]
              omega
end Go.Proofs.YteondblmcooklaaDoor
