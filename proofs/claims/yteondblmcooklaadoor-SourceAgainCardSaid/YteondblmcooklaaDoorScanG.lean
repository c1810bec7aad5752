/- The words of a text, joined by blanks, are the words of the joined text: plain functions. -/
import Derived.Test.YteondblmcooklaaDoorScanC
import Derived.Lib.Join
namespace Go.Proofs.YteondblmcooklaaDoor
open Go
set_option linter.unusedVariables false
theorem run_uniq {p : Int → Bool} {u : ByteArray} {d m : Nat} (hd : d ≤ m) (hm : m ≤ u.size) (h1 : ∀ j, d ≤ j → j < m → p (cOf u j) = true) (h2 : m < u.size → p (cOf u m) = false) : run p u d = m := by
  have g := run_ge p u d
  have l := run_le p u (i := d) (by omega)
  rcases Nat.lt_trichotomy (run p u d) m with h | h | h
  · have := run_end (p := p) (s := u) (i := d) (by omega)
    rw [h1 _ g h] at this; cases this
  · exact h
  · have := run_mem (p := p) (s := u) hd h
    rw [h2 (by omega)] at this; cases this
theorem num_eq {M : Int} {u s : ByteArray} {i m : Nat} (hm : m ≤ u.size) (hs : i + m ≤ s.size) (hc : ∀ j, j < m → cOf u j = cOf s (i + j)) (h1 : m < u.size → digB (cOf u m) = false) (h2 : i + m < s.size → digB (cOf s (i + m)) = false) :
    ∀ k d n, d + k = m → (∀ j, d ≤ j → j < m → digB (cOf u j) = true) → num M u d n = num M s (i + d) n
  | 0, d, n, hk, ha => by
    obtain rfl : d = m := by omega
    rw [num_stop (fun h => by rw [h1 h.1] at h; exact absurd h.2 (by simp)), num_stop (fun h => by rw [h2 h.1] at h; exact absurd h.2 (by simp))]
  | k + 1, d, n, hk, ha => by
    have e := hc d (by omega)
    have hd := ha d (Nat.le_refl _) (by omega)
    rw [← num_step (s := u) (i := d) (by omega) hd, ← num_step (s := s) (i := i + d) (by omega) (by rw [← e]; exact hd), e, Nat.add_assoc i d 1]
    exact num_eq hm hs hc h1 h2 k (d + 1) _ (by omega) (fun j hj hj' => ha j (by omega) hj')
theorem byteAt_cut (s : ByteArray) {i e : Nat} (he : e ≤ s.size) {j : Nat} (hj : j < e - i) : byteAt (s.extract i e) j = byteAt s (i + j) := by
  simp only [byteAt, ByteArray.data_extract, Array.toList_extract, List.extract_eq_take_drop, List.getD]
  rw [List.getElem?_take_of_lt (by omega), List.getElem?_drop]
theorem cOf_cut (s : ByteArray) {i e : Nat} (he : e ≤ s.size) {j : Nat} (hj : j < e - i) : cOf (s.extract i e) j = cOf s (i + j) := by unfold cOf; rw [byteAt_cut s he hj]
theorem cut_head (t x : ByteArray) : (t ++ x).extract 0 t.size = t := by
  apply ByteArray.ext
  rw [ByteArray.data_extract, ByteArray.data_append]
  apply Array.ext'
  rw [Array.toList_extract, Array.toList_append, List.extract_eq_take_drop]
  have l' : t.data.toList.length = t.size := by simp
  rw [List.drop_zero, Nat.sub_zero, List.take_append_of_le_length (by omega), List.take_of_length_le (by omega)]
/-- t is the text of a word of kind k and number n, whatever stands behind it after a blank. -/
def IsW (k : Int) (t : ByteArray) (n : Int) : Prop :=
  0 < t.size ∧ ¬ (cOf t 0 = 32 ∨ cOf t 0 = 9 ∨ cOf t 0 = 10) ∧ cOf t 0 ≠ 35 ∧ ∀ x : ByteArray, (x.size = 0 ∨ cOf x 0 = 32) → wordR (t ++ x) 0 = .ok k t n t.size
theorem isW_of {s : ByteArray} {i : Nat} (hi : i < s.size) {k : Int} {t : ByteArray} {n : Int} {nx : Nat} (h : wordR s i = .ok k t n nx) (hb : ¬ (cOf s i = 32 ∨ cOf s i = 9 ∨ cOf s i = 10)) (hn : cOf s i ≠ 35) : IsW k t n := by
  obtain ⟨o1, o2, o3, -, -, -, -, o4⟩ := wordR_ok hi h
  have hc : ∀ j, j < t.size → cOf t j = cOf s (i + j) := by
    intro j hj
    rw [o4, cOf_cut s o2 (by omega)]
  have hc0 : cOf t 0 = cOf s i := hc 0 (by omega)
  refine ⟨by omega, by rw [hc0]; exact hb, by rw [hc0]; exact hn, ?_⟩
  intro x hx
  have hcx : ∀ j, j < t.size → cOf (t ++ x) j = cOf s (i + j) := by
    intro j hj
    rw [cOf_app_left t x hj, hc j hj]
  have hsz : (t ++ x).size = t.size + x.size := size_app t x
  have hend : t.size < (t ++ x).size → cOf (t ++ x) t.size = 32 := by
    intro hlt
    have := cOf_app t x 0
    rw [Nat.add_zero] at this
    rw [this]
    rcases hx with h | h
    · omega
    · exact h
  have hcx0 : cOf (t ++ x) 0 = cOf s i := hcx 0 (by omega)
  have hnx : nx = i + t.size := by omega
  subst hnx
  clear o3
  by_cases h0 : cOf s i = 59
  · unfold wordR at h ⊢
    rw [if_pos h0] at h
    rw [hcx0, if_pos h0]
    injection h with h1 h2 h3 h4
    rw [h1, h3, show t.size = 0 + 1 by omega, h2]
  · by_cases h1 : letB (cOf s i) = true
    · unfold wordR at h ⊢
      rw [if_neg h0, if_pos h1] at h
      rw [hcx0, if_neg h0, if_pos h1]
      split at h
      · cases h
      · rename_i hlen
        injection h with e1 e2 e3 e4
        have hr : run alnumB (t ++ x) 0 = t.size := run_uniq (by omega) (by omega)
          (fun j _ hj => by rw [hcx j hj]; exact run_mem (i := i) (by omega) (by omega))
          (fun hlt => by rw [hend hlt]; rfl)
        rw [hr, if_neg (by omega), cut_head, e1, e3]
    · have hl : letB (cOf s i) = false := by simpa using h1
      rw [wr_num0 h0 hl rfl] at h
      rw [wr_num0 (by rw [hcx0]; exact h0) (by rw [hcx0]; exact hl) rfl, hcx0]
      obtain ⟨d, hd⟩ : ∃ d, d = (if cOf s i = 45 then 1 else 0) := ⟨_, rfl⟩
      have hf1 : (if cOf s i = 45 then i + 1 else i) = i + d := by rw [hd]; split <;> rfl
      have hf2 : (if cOf s i = 45 then 0 + 1 else 0) = d := by rw [hd]
      rw [hf1] at h
      rw [hf2]
      split at h
      · cases h
      · rename_i g1
        split at h
        · cases h
        · rename_i g2
          split at h
          · cases h
          · rename_i g3
            injection h with e1 e2 e3 e4
            have hge := run_ge digB s (i + d)
            have hr : run digB (t ++ x) d = t.size := run_uniq (by omega) (by omega)
              (fun j hj hj' => by rw [hcx j hj']; exact run_mem (i := i + d) (by omega) (by omega))
              (fun hlt => by rw [hend hlt]; rfl)
            have hv : num 1073741825 (t ++ x) d 0 = num 1073741825 s (i + d) 0 :=
              num_eq (m := t.size) (by omega) o2 hcx (fun hlt => by rw [hend hlt]; rfl)
                (fun hlt => by have := run_end (p := digB) (s := s) (i := i + d) (by omega); rwa [e4] at this)
                (t.size - d) d 0 (by omega) (fun j hj hj' => by rw [hcx j hj']; exact run_mem (i := i + d) (by omega) (by omega))
            rw [hr, hv, if_neg (by omega), if_neg g2, if_neg (fun hh => by rw [hend hh.1] at hh; exact absurd hh.2 (by decide)), cut_head, e1, e3]
def J (l : List ByteArray) : ByteArray := ⟨(Lib.join (l.map (·.data.toList)) [32]).toArray⟩
def sp : ByteArray := ⟨#[32]⟩
theorem sp_size : sp.size = 1 := rfl
theorem J_nil : J [] = ⟨#[]⟩ := rfl
theorem J_one (t : ByteArray) : J [t] = t := by
  unfold J
  simp only [List.map_cons, List.map_nil, Lib.join_one]
theorem J_cons2 (t u : ByteArray) (r : List ByteArray) : J (t :: u :: r) = t ++ (sp ++ J (u :: r)) := by
  apply ByteArray.ext
  rw [ByteArray.data_append, ByteArray.data_append]
  apply Array.ext'
  simp only [J, List.map_cons, Lib.join_cons, Lib.joinTail, Array.toList_append, sp, List.map_cons, List.flatten_cons]
  simp
theorem J_snoc (l : List ByteArray) (t : ByteArray) (hl : l ≠ []) : J (l ++ [t]) = J l ++ sp ++ t := by
  match l, hl with
  | [u], _ => rw [J_one, List.singleton_append, J_cons2, J_one, ByteArray.append_assoc]
  | u :: v :: r, _ =>
    have := J_snoc (v :: r) t (by simp)
    rw [List.cons_append, List.cons_append, J_cons2, J_cons2]
    rw [List.cons_append] at this
    rw [this]
    simp only [ByteArray.append_assoc]
def lens (l : List ByteArray) : Nat := (l.map (·.size)).sum
theorem J_size (l : List ByteArray) : (J l).size = lens l + (l.length - 1) := by
  match l with
  | [] => rfl
  | [t] => rw [J_one]; simp [lens]
  | t :: u :: r =>
    rw [J_cons2, size_app, size_app, J_size (u :: r), sp_size]
    simp [lens]
    omega
theorem lens_take (l : List ByteArray) (k : Nat) : lens (l.take k) ≤ lens l := by
  have : lens l = lens (l.take k) + lens (l.drop k) := by
    simp only [lens]
    rw [← List.sum_append, ← List.map_append, List.take_append_drop]
  omega
theorem J_take (l : List ByteArray) (k : Nat) : (J (l.take k)).size ≤ (J l).size := by
  rw [J_size, J_size]
  have := lens_take l k
  have : (l.take k).length ≤ l.length := by simp; omega
  omega
/-- The words of a joined text. -/
theorem scan_join : ∀ (l : List WV) (h : ByteArray) (f : Nat) (acc : List WV), (∀ x ∈ l, IsW x.kind x.text x.num) → (J (l.map (·.text))).size < f →
    ∃ m : List WV, scanF (h ++ J (l.map (·.text))) f h.size acc = (acc ++ m, 0, 0) ∧ m.map (fun x => (x.kind, x.text, x.num)) = l.map (fun x => (x.kind, x.text, x.num))
  | [], h, f, acc, hw, hf => by
    refine ⟨[], ?_, rfl⟩
    rw [scanF_end (by rw [List.map_nil, J_nil, size_app]; exact Nat.lt_irrefl h.size)]
    simp
  | [y], h, f, acc, hw, hf => by
    obtain ⟨w1, w2, w3, w4⟩ := hw y (by simp)
    simp only [List.map_cons, List.map_nil, J_one] at hf ⊢
    have hwd := w4 ⟨#[]⟩ (.inl rfl)
    have hee : y.text ++ (⟨#[]⟩ : ByteArray) = y.text := by apply ByteArray.ext; rw [ByteArray.data_append]; simp
    rw [hee] at hwd
    have hc : cOf (h ++ y.text) h.size = cOf y.text 0 := cOf_app h y.text 0
    have hwr : wordR (h ++ y.text) h.size = .ok y.kind y.text y.num (h.size + y.text.size) := by
      have := wordR_app h y.text 0
      rw [hwd] at this
      exact this
    refine ⟨[⟨y.kind, y.text, y.num, h.size⟩], ?_, rfl⟩
    cases f with
    | zero => omega
    | succ f =>
      have hlt : h.size < (h ++ y.text).size := by rw [size_app]; omega
      simp only [scanF, if_pos hlt, hc, if_neg w2, if_neg w3, hwr]
      rw [scanF_end (by rw [size_app]; omega)]
  | y :: z :: r, h, f, acc, hw, hf => by
    obtain ⟨w1, w2, w3, w4⟩ := hw y (by simp)
    simp only [List.map_cons, J_cons2] at hf ⊢
    obtain ⟨R, hR⟩ : ∃ R, R = J (z.text :: r.map (·.text)) := ⟨_, rfl⟩
    rw [← hR] at hf ⊢
    have hwd := w4 (sp ++ R) (.inr (by rw [cOf_app_left _ _ (by rw [sp_size]; omega)]; rfl))
    have hc : cOf (h ++ (y.text ++ (sp ++ R))) h.size = cOf y.text 0 := by
      have := cOf_app h (y.text ++ (sp ++ R)) 0
      rw [Nat.add_zero] at this
      rw [this, cOf_app_left _ _ (by omega)]
    have hwr : wordR (h ++ (y.text ++ (sp ++ R))) h.size = .ok y.kind y.text y.num (h.size + y.text.size) := by
      have := wordR_app h (y.text ++ (sp ++ R)) 0
      rw [hwd] at this
      exact this
    have hre : h ++ (y.text ++ (sp ++ R)) = (h ++ y.text ++ sp) ++ R := by simp only [ByteArray.append_assoc]
    have hsz : (h ++ y.text ++ sp).size = h.size + y.text.size + 1 := by rw [size_app, size_app, sp_size]
    rw [size_app, size_app, sp_size] at hf
    have hc2 : cOf (h ++ (y.text ++ (sp ++ R))) (h.size + y.text.size) = 32 := by
      have e : h ++ (y.text ++ (sp ++ R)) = (h ++ y.text) ++ (sp ++ R) := by simp only [ByteArray.append_assoc]
      have := cOf_app (h ++ y.text) (sp ++ R) 0
      rw [Nat.add_zero, size_app] at this
      rw [e, this, cOf_app_left _ _ (by rw [sp_size]; omega)]
      rfl
    match f, hf with
    | f + 2, hf =>
      have hlt : h.size < (h ++ (y.text ++ (sp ++ R))).size := by rw [size_app, size_app]; omega
      have hlt2 : h.size + y.text.size < (h ++ (y.text ++ (sp ++ R))).size := by rw [size_app, size_app, size_app, sp_size]; omega
      obtain ⟨m, hm1, hm2⟩ := scan_join (z :: r) (h ++ y.text ++ sp) f (acc ++ [⟨y.kind, y.text, y.num, h.size⟩]) (fun x hx => hw x (by simp at hx ⊢; right; exact hx)) (by simp only [List.map_cons]; rw [← hR]; omega)
      refine ⟨⟨y.kind, y.text, y.num, h.size⟩ :: m, ?_, by simp only [List.map_cons] at hm2 ⊢; rw [hm2]⟩
      rw [show f + 2 = (f + 1) + 1 from rfl]
      simp only [scanF, if_pos hlt, hc, if_neg w2, if_neg w3, hwr, if_pos hlt2, hc2, true_or, if_true]
      simp only [List.map_cons, hsz] at hm1
      rw [← hR, ← hre] at hm1
      rw [hm1]
      simp
    | 0, hf => omega
    | 1, hf => omega
/-- The words stand where they say, one behind the other. -/
def Chain (s : ByteArray) : Nat → List WV → Prop
  | _, [] => True
  | i, x :: r => i ≤ x.at_ ∧ x.at_ + x.text.size ≤ s.size ∧ s.extract x.at_ (x.at_ + x.text.size) = x.text ∧ IsW x.kind x.text x.num ∧ Chain s (x.at_ + x.text.size) r
theorem chain_le {s : ByteArray} {i j : Nat} (h : j ≤ i) : ∀ {l}, Chain s i l → Chain s j l
  | [], _ => trivial
  | x :: r, hc => ⟨Nat.le_trans h hc.1, hc.2⟩
theorem scan_chain (s : ByteArray) : ∀ f i acc, s.size - i < f → (∃ m, scanF s f i acc = (acc ++ m, 0, 0) ∧ Chain s i m) ∨ ((scanF s f i acc).2.1 ≠ 0 ∧ (scanF s f i acc).1 = [])
  | 0, i, acc, hf => by omega
  | f + 1, i, acc, hf => by
    unfold scanF
    by_cases hlt : i < s.size
    · rw [if_pos hlt]
      by_cases h1 : cOf s i = 32 ∨ cOf s i = 9 ∨ cOf s i = 10
      · rw [if_pos h1]
        rcases scan_chain s f (i + 1) acc (by omega) with ⟨m, hm, hc⟩ | h
        · exact .inl ⟨m, hm, chain_le (by omega) hc⟩
        · exact .inr h
      · rw [if_neg h1]
        by_cases h2 : cOf s i = 35
        · rw [if_pos h2]
          have hge : i + 1 ≤ run notLf s i := by rw [← run_step hlt (p := notLf) (by simp [notLf]; omega)]; exact run_ge _ _ _
          rcases scan_chain s f (run notLf s i) acc (by omega) with ⟨m, hm, hc⟩ | h
          · exact .inl ⟨m, hm, chain_le (by omega) hc⟩
          · exact .inr h
        · rw [if_neg h2]
          cases hw : wordR s i with
          | err e a => exact .inr ⟨by have := wordR_err hw; simp only; omega, rfl⟩
          | ok k t n nx =>
            have hok := wordR_ok hlt hw
            have hnx : nx = i + t.size := by omega
            subst hnx
            have hl : ByteArray.size t = t.size := rfl
            rcases scan_chain s f (i + t.size) (acc ++ [⟨k, t, n, i⟩]) (by omega) with ⟨m, hm, hc⟩ | h
            · refine .inl ⟨⟨k, t, n, i⟩ :: m, ?_, Nat.le_refl _, hok.2.1, hok.2.2.2.2.2.2.2.symm, isW_of hlt hw h1 h2, hc⟩
              simp only
              rw [hm]
              simp
            · exact .inr h
    · rw [if_neg hlt]; exact .inl ⟨[], by simp, trivial⟩
theorem scanR_chain (s : ByteArray) : (∃ m, scanR s = (m, 0, 0) ∧ Chain s 0 m ∧ s.size ≤ 20000) ∨ ((scanR s).2.1 ≠ 0 ∧ (scanR s).1 = []) := by
  unfold scanR
  by_cases hs : 20000 < s.size
  · rw [if_pos hs]; exact .inr ⟨by simp, rfl⟩
  · rw [if_neg hs]
    rcases scan_chain s (s.size + 1) 0 [] (by omega) with ⟨m, hm, hc⟩ | h
    · exact .inl ⟨m, by rw [hm]; simp, hc, by omega⟩
    · exact .inr h
theorem chain_isW {s : ByteArray} : ∀ {l i}, Chain s i l → ∀ x ∈ l, IsW x.kind x.text x.num
  | [], _, _, x, hx => by cases hx
  | y :: r, i, hc, x, hx => by
    rcases List.mem_cons.1 hx with rfl | h
    · exact hc.2.2.2.1
    · exact chain_isW hc.2.2.2.2 x h
theorem chain_lens {s : ByteArray} : ∀ {l : List WV} {i}, i ≤ s.size → Chain s i l → lens (l.map (·.text)) + i ≤ s.size ∧ l.length ≤ lens (l.map (·.text))
  | [], i, hi, _ => by simp [lens]; exact hi
  | y :: r, i, hi, hc => by
    obtain ⟨h1, h2, h3, h4, h5⟩ := hc
    obtain ⟨a, b⟩ := chain_lens h2 h5
    have := h4.1
    simp only [lens, List.map_cons, List.sum_cons, List.length_cons] at *
    omega
theorem chain_get {s : ByteArray} : ∀ {l : List WV} {i k : Nat} {x : WV}, Chain s i l → l[k]? = some x → x.at_ + x.text.size ≤ s.size ∧ s.extract x.at_ (x.at_ + x.text.size) = x.text ∧ (k = 0 → i ≤ x.at_) ∧ (∀ y, l[k + 1]? = some y → x.at_ + x.text.size ≤ y.at_)
  | [], i, k, x, _, h => by simp at h
  | y :: r, i, 0, x, hc, h => by
    simp only [List.getElem?_cons_zero, Option.some.injEq] at h
    subst h
    obtain ⟨h1, h2, h3, h4, h5⟩ := hc
    refine ⟨h2, h3, fun _ => h1, fun z hz => ?_⟩
    simp only [List.getElem?_cons_succ] at hz
    exact (chain_get h5 hz).2.2.1 rfl
  | y :: r, i, k + 1, x, hc, h => by
    simp only [List.getElem?_cons_succ] at h
    obtain ⟨a, b, c, d⟩ := chain_get hc.2.2.2.2 h
    exact ⟨a, b, fun hk => absurd hk (by omega), fun z hz => d z (by simpa using hz)⟩
/-- A word that can be joined. -/
def okW (k : Int) (t : ByteArray) (n : Int) : Prop := ∃ y : WV, scanR t = ([y], 0, 0) ∧ y.kind = k ∧ y.text = t ∧ y.num = n
theorem okW_of {k : Int} {t : ByteArray} {n : Int} (h : IsW k t n) (hs : t.size ≤ 20000) : okW k t n := by
  obtain ⟨m, hm1, hm2⟩ := scan_join [⟨k, t, n, 0⟩] ⟨#[]⟩ (t.size + 1) [] (by simpa using h) (by simp only [List.map_cons, List.map_nil, J_one]; omega)
  simp only [List.map_cons, List.map_nil, J_one] at hm1 hm2
  have hee : (⟨#[]⟩ : ByteArray) ++ t = t := by apply ByteArray.ext; rw [ByteArray.data_append]; simp
  rw [hee] at hm1
  match m, hm2 with
  | [y], hm2 =>
    simp only [List.map_cons, List.map_nil, List.cons.injEq, Prod.mk.injEq, and_true] at hm2
    refine ⟨y, ?_, hm2.1, hm2.2.1, hm2.2.2⟩
    unfold scanR
    rw [if_neg (by omega)]
    exact hm1
theorem isW_ok {k : Int} {t : ByteArray} {n : Int} (h : okW k t n) : IsW k t n := by
  obtain ⟨y, hy, rfl, hy2, rfl⟩ := h
  rcases scanR_chain t with ⟨m, hm, hc, _⟩ | ⟨he, _⟩
  · rw [hm] at hy
    simp only [Prod.mk.injEq, and_true] at hy
    subst hy
    have := hc.2.2.2.1
    rw [hy2] at this
    exact this
  · rw [hy] at he; exact absurd rfl he
theorem scanR_join (l : List WV) (hw : ∀ x ∈ l, IsW x.kind x.text x.num) (hs : (J (l.map (·.text))).size ≤ 20000) : ∃ m : List WV, scanR (J (l.map (·.text))) = (m, 0, 0) ∧ m.map (fun x => (x.kind, x.text, x.num)) = l.map (fun x => (x.kind, x.text, x.num)) := by
  obtain ⟨m, h1, h2⟩ := scan_join l ⟨#[]⟩ ((J (l.map (·.text))).size + 1) [] hw (by omega)
  have hee : (⟨#[]⟩ : ByteArray) ++ J (l.map (·.text)) = J (l.map (·.text)) := by apply ByteArray.ext; rw [ByteArray.data_append]; simp
  rw [hee] at h1
  refine ⟨m, ?_, h2⟩
  unfold scanR
  rw [if_neg (by omega)]
  exact h1
end Go.Proofs.YteondblmcooklaaDoor
