/- The words of a text whose words stand apart by blanks, or at a semicolon: plain. -/
import Derived.Test.YteondblmcooklaaDoorScanG
import Derived.Test.YteondblmcooklaaDoorSrcQ
namespace Go.Proofs.YteondblmcooklaaDoor
open Go
set_option linter.unusedVariables false
def stopC (c : Int) : Prop := c = 32 ∨ c = 10 ∨ c = 59
/-- t is the text of a word of kind k and number n, whatever stands behind it at a stop; a semicolon needs none. -/
def IsA (k : Int) (t : ByteArray) (n : Int) : Prop :=
  0 < t.size ∧ ¬ (cOf t 0 = 32 ∨ cOf t 0 = 9 ∨ cOf t 0 = 10) ∧ cOf t 0 ≠ 35 ∧ ∀ x : ByteArray, (k = 3 ∨ x.size = 0 ∨ stopC (cOf x 0)) → wordR (t ++ x) 0 = .ok k t n t.size
theorem isA_of {s : ByteArray} {i : Nat} (hi : i < s.size) {k : Int} {t : ByteArray} {n : Int} {nx : Nat} (h : wordR s i = .ok k t n nx) (hb : ¬ (cOf s i = 32 ∨ cOf s i = 9 ∨ cOf s i = 10)) (hn : cOf s i ≠ 35) : IsA k t n := by
  obtain ⟨o1, o2, o3, -, -, -, -, o4⟩ := wordR_ok hi h
  have hc : ∀ j, j < t.size → cOf t j = cOf s (i + j) := by
    intro j hj
    rw [o4, cOf_cut s o2 (by omega)]
  have hc0 : cOf t 0 = cOf s i := hc 0 (by omega)
  refine ⟨by omega, by rw [hc0]; exact hb, by rw [hc0]; exact hn, ?_⟩
  intro x hx
  have hcx : ∀ j, j < t.size → cOf (t ++ x) j = cOf s (i + j) := by
    intro j hj
    rw [cOf_app_left t x hj, hc j hj]
  have hsz : (t ++ x).size = t.size + x.size := size_app t x
  have hend : k ≠ 3 → t.size < (t ++ x).size → stopC (cOf (t ++ x) t.size) := by
    intro hk3 hlt
    have := cOf_app t x 0
    rw [Nat.add_zero] at this
    rw [this]
    rcases hx with h | h | h
    · exact absurd h hk3
    · omega
    · exact h
  have hcx0 : cOf (t ++ x) 0 = cOf s i := hcx 0 (by omega)
  have hnx : nx = i + t.size := by omega
  subst hnx
  clear o3
  by_cases h0 : cOf s i = 59
  · unfold wordR at h ⊢
    rw [if_pos h0] at h
    rw [hcx0, if_pos h0]
    injection h with h1 h2 h3 h4
    rw [h1, h3, show t.size = 0 + 1 by omega, h2]
  · by_cases h1 : letB (cOf s i) = true
    · unfold wordR at h ⊢
      rw [if_neg h0, if_pos h1] at h
      rw [hcx0, if_neg h0, if_pos h1]
      split at h
      · cases h
      · rename_i hlen
        injection h with e1 e2 e3 e4
        have hk3 : k ≠ 3 := by rw [← e1]; decide
        have hr : run alnumB (t ++ x) 0 = t.size := run_uniq (by omega) (by omega)
          (fun j _ hj => by rw [hcx j hj]; exact run_mem (i := i) (by omega) (by omega))
          (fun hlt => by rcases hend hk3 hlt with h | h | h <;> rw [h] <;> rfl)
        rw [hr, if_neg (by omega), cut_head, e1, e3]
    · have hl : letB (cOf s i) = false := by simpa using h1
      rw [wr_num0 h0 hl rfl] at h
      rw [wr_num0 (by rw [hcx0]; exact h0) (by rw [hcx0]; exact hl) rfl, hcx0]
      obtain ⟨d, hd⟩ : ∃ d, d = (if cOf s i = 45 then 1 else 0) := ⟨_, rfl⟩
      have hf1 : (if cOf s i = 45 then i + 1 else i) = i + d := by rw [hd]; split <;> rfl
      have hf2 : (if cOf s i = 45 then 0 + 1 else 0) = d := by rw [hd]
      rw [hf1] at h
      rw [hf2]
      split at h
      · cases h
      · rename_i g1
        split at h
        · cases h
        · rename_i g2
          split at h
          · cases h
          · rename_i g3
            injection h with e1 e2 e3 e4
            have hk3 : k ≠ 3 := by rw [← e1]; decide
            have hge := run_ge digB s (i + d)
            have hr : run digB (t ++ x) d = t.size := run_uniq (by omega) (by omega)
              (fun j hj hj' => by rw [hcx j hj']; exact run_mem (i := i + d) (by omega) (by omega))
              (fun hlt => by rcases hend hk3 hlt with h | h | h <;> rw [h] <;> rfl)
            have hv : num 1073741825 (t ++ x) d 0 = num 1073741825 s (i + d) 0 :=
              num_eq (m := t.size) (by omega) o2 hcx (fun hlt => by rcases hend hk3 hlt with h | h | h <;> rw [h] <;> rfl)
                (fun hlt => by have := run_end (p := digB) (s := s) (i := i + d) (by omega); rwa [e4] at this)
                (t.size - d) d 0 (by omega) (fun j hj hj' => by rw [hcx j hj']; exact run_mem (i := i + d) (by omega) (by omega))
            rw [hr, hv, if_neg (by omega), if_neg g2, if_neg (fun hh => by rcases hend hk3 hh.1 with h | h | h <;> (rw [h] at hh; exact absurd hh.2 (by decide))), cut_head, e1, e3]
/-- A word and what stands behind it. -/
structure Tk where
  k : Int
  t : ByteArray
  n : Int
  sep : ByteArray
def catT : List Tk → ByteArray
  | [] => ⟨#[]⟩
  | y :: r => y.t ++ (y.sep ++ catT r)
def put (i : Nat) : List Tk → List WV
  | [] => []
  | y :: r => ⟨y.k, y.t, y.n, i⟩ :: put (i + y.t.size + y.sep.size) r
def blankS (s : ByteArray) : Prop := s.size = 0 ∨ (s.size = 1 ∧ (cOf s 0 = 32 ∨ cOf s 0 = 10))
def OkT : List Tk → Prop
  | [] => True
  | y :: r => IsA y.k y.t y.n ∧ blankS y.sep ∧ (y.k = 3 ∨ (y.sep ++ catT r).size = 0 ∨ stopC (cOf (y.sep ++ catT r) 0)) ∧ OkT r
theorem app_nil (s : ByteArray) : s ++ (⟨#[]⟩ : ByteArray) = s := by apply ByteArray.ext; rw [ByteArray.data_append]; simp
theorem nil_app (s : ByteArray) : (⟨#[]⟩ : ByteArray) ++ s = s := by apply ByteArray.ext; rw [ByteArray.data_append]; simp
theorem size_nil {s : ByteArray} (h : s.size = 0) : s = ⟨#[]⟩ := by
  apply ByteArray.ext
  exact Array.eq_empty_of_size_eq_zero h
/-- The words of such a text. -/
theorem scan_toks : ∀ (l : List Tk) (h : ByteArray) (f : Nat) (acc : List WV), OkT l → (catT l).size < f →
    scanF (h ++ catT l) f h.size acc = (acc ++ put h.size l, 0, 0)
  | [], h, f, acc, hw, hf => by
    rw [scanF_end (by show ¬ h.size < (h ++ (⟨#[]⟩ : ByteArray)).size; rw [app_nil]; omega)]
    simp [put]
  | y :: r, h, f, acc, hw, hf => by
    obtain ⟨⟨w1, w2, w3, w4⟩, hb, hs, hr⟩ := hw
    obtain ⟨R, hR⟩ : ∃ R, R = catT r := ⟨_, rfl⟩
    have hcat : catT (y :: r) = y.t ++ (y.sep ++ R) := by rw [hR]; rfl
    rw [hcat] at hf ⊢
    rw [← hR] at hs
    have hwd := w4 (y.sep ++ R) hs
    have hc : cOf (h ++ (y.t ++ (y.sep ++ R))) h.size = cOf y.t 0 := by
      have := cOf_app h (y.t ++ (y.sep ++ R)) 0
      rw [Nat.add_zero] at this
      rw [this, cOf_app_left _ _ (by omega)]
    have hwr : wordR (h ++ (y.t ++ (y.sep ++ R))) h.size = .ok y.k y.t y.n (h.size + y.t.size) := by
      have := wordR_app h (y.t ++ (y.sep ++ R)) 0
      rw [hwd] at this
      exact this
    have hre : h ++ (y.t ++ (y.sep ++ R)) = (h ++ y.t ++ y.sep) ++ R := by simp only [ByteArray.append_assoc]
    have hsz : (h ++ y.t ++ y.sep).size = h.size + y.t.size + y.sep.size := by rw [size_app, size_app]
    rw [size_app, size_app] at hf
    cases f with
    | zero => omega
    | succ f =>
      have hlt : h.size < (h ++ (y.t ++ (y.sep ++ R))).size := by rw [size_app, size_app]; omega
      have step : scanF (h ++ (y.t ++ (y.sep ++ R))) (f + 1) h.size acc = scanF (h ++ (y.t ++ (y.sep ++ R))) f (h.size + y.t.size) (acc ++ [⟨y.k, y.t, y.n, h.size⟩]) := by
        simp only [scanF, if_pos hlt, hc, if_neg w2, if_neg w3, hwr]
      rw [step]
      have fin : ∀ g, R.size < g → scanF (h ++ (y.t ++ (y.sep ++ R))) g (h.size + y.t.size + y.sep.size) (acc ++ [⟨y.k, y.t, y.n, h.size⟩]) = (acc ++ put h.size (y :: r), 0, 0) := by
        intro g hg
        have := scan_toks r (h ++ y.t ++ y.sep) g (acc ++ [⟨y.k, y.t, y.n, h.size⟩]) hr (by rw [← hR]; exact hg)
        rw [← hR, ← hre, hsz] at this
        rw [this]
        simp [put]
      rcases hb with hb | ⟨hb, hbc⟩
      · have := fin f (by omega)
        rw [hb, Nat.add_zero] at this
        exact this
      · cases f with
        | zero => omega
        | succ f =>
          have hlt2 : h.size + y.t.size < (h ++ (y.t ++ (y.sep ++ R))).size := by rw [size_app, size_app, size_app]; omega
          have hc2 : cOf (h ++ (y.t ++ (y.sep ++ R))) (h.size + y.t.size) = cOf y.sep 0 := by
            have e : h ++ (y.t ++ (y.sep ++ R)) = (h ++ y.t) ++ (y.sep ++ R) := by simp only [ByteArray.append_assoc]
            have := cOf_app (h ++ y.t) (y.sep ++ R) 0
            rw [Nat.add_zero, size_app] at this
            rw [e, this, cOf_app_left _ _ (by omega)]
          have hbl : cOf y.sep 0 = 32 ∨ cOf y.sep 0 = 9 ∨ cOf y.sep 0 = 10 := by rcases hbc with h | h; exact .inl h; exact .inr (.inr h)
          have st2 : scanF (h ++ (y.t ++ (y.sep ++ R))) (f + 1) (h.size + y.t.size) (acc ++ [⟨y.k, y.t, y.n, h.size⟩]) = scanF (h ++ (y.t ++ (y.sep ++ R))) f (h.size + y.t.size + 1) (acc ++ [⟨y.k, y.t, y.n, h.size⟩]) := by
            simp only [scanF, if_pos hlt2, hc2, if_pos hbl]
          rw [st2]
          have := fin f (by omega)
          rw [hb] at this
          exact this
theorem scanR_toks (l : List Tk) (h : OkT l) (hs : (catT l).size ≤ 20000) : scanR (catT l) = (put 0 l, 0, 0) := by
  have := scan_toks l ⟨#[]⟩ ((catT l).size + 1) [] h (by omega)
  rw [nil_app] at this
  unfold scanR
  rw [if_neg (by omega)]
  rw [show (⟨#[]⟩ : ByteArray).size = 0 from rfl] at this
  rw [this]
  simp
end Go.Proofs.YteondblmcooklaaDoor
