/- What the words of a text are: plain functions on bytes; no program in sight. -/
import Derived.Below
import Derived.Lib.Hide
namespace Go.Proofs.YteondblmcooklaaDoor
open Go
def byteAt (s : ByteArray) (i : Nat) : UInt8 := s.data.toList.getD i 0
theorem byteAt_eq {s : ByteArray} {i : Nat} (h : i < s.size) : s[i] = byteAt s i := by
  have : i < s.data.toList.length := by simpa using h
  simp only [byteAt, List.getD, List.getElem?_eq_getElem this, Option.getD_some]
  rfl
def letB (c : Int) : Bool := decide (97 ≤ c ∧ c ≤ 122)
def digB (c : Int) : Bool := decide (48 ≤ c ∧ c ≤ 57)
def cOf (s : ByteArray) (i : Nat) : Int := ((byteAt s i).toNat : Int)
theorem cOf_bd (s : ByteArray) (i : Nat) : 0 ≤ cOf s i ∧ cOf s i < 256 := by
  unfold cOf
  have := (byteAt s i).toNat_lt
  omega
def runTo (p : Int → Bool) (s : ByteArray) : Nat → Nat → Nat
  | 0, i => i
  | f + 1, i => if i < s.size ∧ p (cOf s i) = true then runTo p s f (i + 1) else i
/-- The end of the run of bytes with p from i on. -/
def run (p : Int → Bool) (s : ByteArray) (i : Nat) : Nat := runTo p s (s.size - i) i
theorem run_step {p : Int → Bool} {s : ByteArray} {i : Nat} (h : i < s.size) (hp : p (cOf s i) = true) : run p s (i + 1) = run p s i := by
  unfold run
  have : s.size - i = (s.size - (i + 1)) + 1 := by omega
  rw [this]
  simp only [runTo, h, hp, and_self, if_true]
theorem run_stop {p : Int → Bool} {s : ByteArray} {i : Nat} (h : ¬ (i < s.size ∧ p (cOf s i) = true)) : run p s i = i := by
  unfold run
  cases hn : s.size - i with
  | zero => rfl
  | succ n => simp only [runTo, if_neg h]
theorem runTo_ge (p : Int → Bool) (s : ByteArray) : ∀ f i, i ≤ runTo p s f i
  | 0, i => Nat.le_refl _
  | f + 1, i => by
    unfold runTo
    split
    · have := runTo_ge p s f (i + 1); omega
    · exact Nat.le_refl _
theorem run_ge (p : Int → Bool) (s : ByteArray) (i : Nat) : i ≤ run p s i := runTo_ge _ _ _ _
theorem runTo_le (p : Int → Bool) (s : ByteArray) : ∀ f i, i ≤ s.size → runTo p s f i ≤ s.size
  | 0, i, h => h
  | f + 1, i, h => by
    unfold runTo
    split
    · rename_i hh; exact runTo_le p s f (i + 1) (by omega)
    · exact h
theorem run_le (p : Int → Bool) (s : ByteArray) {i : Nat} (h : i ≤ s.size) : run p s i ≤ s.size := runTo_le _ _ _ _ h
theorem runTo_mem (p : Int → Bool) (s : ByteArray) : ∀ f i j, i ≤ j → j < runTo p s f i → p (cOf s j) = true
  | 0, i, j, h, h' => by simp only [runTo] at h'; omega
  | f + 1, i, j, h, h' => by
    unfold runTo at h'
    split at h'
    · rename_i hh
      by_cases hij : i = j
      · subst hij; exact hh.2
      · exact runTo_mem p s f (i + 1) j (by omega) h'
    · omega
theorem run_mem {p : Int → Bool} {s : ByteArray} {i j : Nat} (h : i ≤ j) (h' : j < run p s i) : p (cOf s j) = true := runTo_mem _ _ _ _ _ h h'
theorem runTo_end (p : Int → Bool) (s : ByteArray) : ∀ f i, s.size - i ≤ f → runTo p s f i < s.size → p (cOf s (runTo p s f i)) = false
  | 0, i, h, h' => by simp only [runTo] at h'; omega
  | f + 1, i, h, h' => by
    unfold runTo at h' ⊢
    by_cases hh : i < s.size ∧ p (cOf s i) = true
    · rw [if_pos hh] at h' ⊢; exact runTo_end p s f (i + 1) (by omega) h'
    · rw [if_neg hh] at h' ⊢
      cases hp : p (cOf s i) with
      | true => exact absurd ⟨h', hp⟩ hh
      | false => rfl
theorem run_end {p : Int → Bool} {s : ByteArray} {i : Nat} (h : run p s i < s.size) : p (cOf s (run p s i)) = false := runTo_end _ _ _ _ (Nat.le_refl _) h
def alnumB (c : Int) : Bool := letB c || digB c
def notLf (c : Int) : Bool := !decide (c = 10)
/-- The number that the digits from i on make, cut at M. -/
def numTo (M : Int) (s : ByteArray) : Nat → Nat → Int → Int
  | 0, _, n => n
  | f + 1, i, n => if i < s.size ∧ digB (cOf s i) = true then numTo M s f (i + 1) (min (10 * n + (cOf s i - 48)) M) else n
def num (M : Int) (s : ByteArray) (i : Nat) (n : Int) : Int := numTo M s (s.size - i) i n
theorem num_step {M : Int} {s : ByteArray} {i : Nat} {n : Int} (h : i < s.size) (hp : digB (cOf s i) = true) : num M s (i + 1) (min (10 * n + (cOf s i - 48)) M) = num M s i n := by
  unfold num
  have : s.size - i = (s.size - (i + 1)) + 1 := by omega
  rw [this]
  simp only [numTo, h, hp, and_self, if_true]
theorem num_stop {M : Int} {s : ByteArray} {i : Nat} {n : Int} (h : ¬ (i < s.size ∧ digB (cOf s i) = true)) : num M s i n = n := by
  unfold num
  cases hn : s.size - i with
  | zero => rfl
  | succ k => simp only [numTo, if_neg h]
theorem numTo_rel (s : ByteArray) : ∀ f i (n n' : Int), 0 ≤ n → 0 ≤ n' → (n = n' ∧ n ≤ 1073741824 ∨ 1073741824 < n ∧ 1073741824 < n') →
    (numTo 2147483648 s f i n = numTo 1073741825 s f i n' ∧ numTo 2147483648 s f i n ≤ 1073741824 ∨ 1073741824 < numTo 2147483648 s f i n ∧ 1073741824 < numTo 1073741825 s f i n')
  | 0, _, n, n', _, _, h => by simp only [numTo]; exact h
  | f + 1, i, n, n', h0, h0', h => by
    unfold numTo
    by_cases hc : i < s.size ∧ digB (cOf s i) = true
    · rw [if_pos hc, if_pos hc]
      have hd : 48 ≤ cOf s i ∧ cOf s i ≤ 57 := by simpa [digB] using hc.2
      exact numTo_rel s f (i + 1) _ _ (by omega) (by omega) (by omega)
    · rw [if_neg hc, if_neg hc]; exact h
theorem num_rel (s : ByteArray) (i : Nat) : (num 2147483648 s i 0 = num 1073741825 s i 0 ∧ num 2147483648 s i 0 ≤ 1073741824 ∨ 1073741824 < num 2147483648 s i 0 ∧ 1073741824 < num 1073741825 s i 0) :=
  numTo_rel s _ i 0 0 (by omega) (by omega) (by omega)
theorem numTo_bd (M : Int) (hM : 0 ≤ M) (s : ByteArray) : ∀ f i (n : Int), 0 ≤ n → n ≤ M → 0 ≤ numTo M s f i n ∧ numTo M s f i n ≤ M
  | 0, _, n, h0, h1 => by simp only [numTo]; exact ⟨h0, h1⟩
  | f + 1, i, n, h0, h1 => by
    unfold numTo
    by_cases hc : i < s.size ∧ digB (cOf s i) = true
    · rw [if_pos hc]
      have hd : 48 ≤ cOf s i ∧ cOf s i ≤ 57 := by simpa [digB] using hc.2
      exact numTo_bd M hM s f (i + 1) _ (by omega) (by omega)
    · rw [if_neg hc]; exact ⟨h0, h1⟩
theorem num_bd (s : ByteArray) (i : Nat) : 0 ≤ num 1073741825 s i 0 ∧ num 1073741825 s i 0 ≤ 1073741825 := numTo_bd _ (by omega) s _ i 0 (by omega) (by omega)
inductive WR where
  | err (e : Int) (at_ : Nat)
  | ok (kind : Int) (text : ByteArray) (num : Int) (nx : Nat)
/-- The word that begins at i. -/
def wordR (s : ByteArray) (i : Nat) : WR :=
  if cOf s i = 59 then .ok 3 ⟨#[59]⟩ 0 (i + 1)
  else if letB (cOf s i) = true then
    if 12 < run alnumB s i - i then .err 6 i else .ok 1 (s.extract i (run alnumB s i)) 0 (run alnumB s i)
  else
    let f := if cOf s i = 45 then i + 1 else i
    let e := run digB s f
    let n := num 1073741825 s f 0
    if e = f then .err 4 i
    else if 1073741824 < n then .err 5 i
    else if e < s.size ∧ letB (cOf s e) = true then .err 4 e
    else .ok 2 (s.extract i e) (if cOf s i = 45 then -n else n) e
structure WV where
  kind : Int
  text : ByteArray
  num : Int
  at_ : Nat
def scanF (s : ByteArray) : Nat → Nat → List WV → List WV × Int × Nat
  | 0, _, acc => (acc, 0, 0)
  | f + 1, i, acc =>
    if i < s.size then
      if cOf s i = 32 ∨ cOf s i = 9 ∨ cOf s i = 10 then scanF s f (i + 1) acc
      else if cOf s i = 35 then scanF s f (run notLf s i) acc
      else match wordR s i with
        | .err e a => ([], e, a)
        | .ok k t n nx => scanF s f nx (acc ++ [⟨k, t, n, i⟩])
    else (acc, 0, 0)
def scanR (s : ByteArray) : List WV × Int × Nat := if 20000 < s.size then ([], 2, 0) else scanF s (s.size + 1) 0 []
theorem scanF_end {s : ByteArray} {f i : Nat} {acc : List WV} (h : ¬ i < s.size) : scanF s f i acc = (acc, 0, 0) := by
  cases f with
  | zero => rfl
  | succ f => simp only [scanF, if_neg h]
theorem wordR_ok {s : ByteArray} {i : Nat} (hi : i < s.size) {k : Int} {t : ByteArray} {n : Int} {nx : Nat} (h : wordR s i = .ok k t n nx) : i < nx ∧ nx ≤ s.size ∧ t.size = nx - i ∧ -1073741824 ≤ n ∧ n ≤ 1073741824 ∧ 1 ≤ k ∧ k ≤ 3 ∧ t = s.extract i nx := by
  unfold wordR at h
  by_cases h0 : cOf s i = 59
  · rw [if_pos h0] at h
    injection h with h1 h2 h3 h4
    subst h1 h2 h3 h4
    refine ⟨by omega, by omega, by have : ByteArray.size ⟨#[59]⟩ = 1 := rfl; omega, by omega, by omega, by omega, by omega, ?_⟩
    have hb : byteAt s i = 59 := by
      unfold cOf at h0
      exact UInt8.toNat_inj.1 (by simpa using (by omega : (byteAt s i).toNat = 59))
    apply ByteArray.ext
    rw [ByteArray.data_extract]
    apply Array.ext
    · simp; omega
    · intro j h1 h2
      simp at h1
      obtain rfl : j = 0 := by omega
      have := byteAt_eq hi
      simp only [Array.getElem_extract, Nat.add_zero]
      rw [hb] at this
      exact (show s.data[i] = 59 from this).symm
  · rw [if_neg h0] at h
    by_cases h1 : letB (cOf s i) = true
    · rw [if_pos h1] at h
      have hge : i + 1 ≤ run alnumB s i := by rw [← run_step hi (p := alnumB) (by simp [alnumB, h1])]; exact run_ge _ _ _
      have hle := run_le alnumB s (i := i) (by omega)
      split at h
      · cases h
      · injection h with e1 e2 e3 e4
        subst e1 e2 e3 e4
        refine ⟨by omega, hle, by simp [ByteArray.size_extract]; omega, by omega, by omega, by omega, by omega, rfl⟩
    · rw [if_neg h1] at h
      simp only at h
      generalize hf : (if cOf s i = 45 then i + 1 else i) = f at h
      have hfi : i ≤ f ∧ f ≤ s.size := by rw [← hf]; split <;> omega
      have hge := run_ge digB s f
      have hle := run_le digB s hfi.2
      have hn := num_bd s f
      split at h
      · cases h
      · split at h
        · cases h
        · split at h
          · cases h
          · rename_i g1 g2 g3
            injection h with e1 e2 e3 e4
            subst e1 e2 e3 e4
            refine ⟨by omega, hle, by simp [ByteArray.size_extract]; omega, ?_, ?_, by omega, by omega, rfl⟩ <;> split <;> omega
theorem wr_num0 {s : ByteArray} {i f : Nat} (hc : cOf s i ≠ 59) (hl : letB (cOf s i) = false) (hf : f = if cOf s i = 45 then i + 1 else i) :
    wordR s i = if run digB s f = f then .err 4 i else if 1073741824 < num 1073741825 s f 0 then .err 5 i
      else if run digB s f < s.size ∧ letB (cOf s (run digB s f)) = true then .err 4 (run digB s f)
      else .ok 2 (s.extract i (run digB s f)) (if cOf s i = 45 then -(num 1073741825 s f 0) else num 1073741825 s f 0) (run digB s f) := by
  unfold wordR
  rw [if_neg hc, if_neg (by rw [hl]; simp), ← hf]
theorem wr_nodig {s : ByteArray} {i f : Nat} (hc : cOf s i ≠ 59) (hl : letB (cOf s i) = false) (hf : f = if cOf s i = 45 then i + 1 else i) (he : run digB s f = f) : wordR s i = .err 4 i := by
  rw [wr_num0 hc hl hf, if_pos he]
theorem wr_range {s : ByteArray} {i f : Nat} (hc : cOf s i ≠ 59) (hl : letB (cOf s i) = false) (hf : f = if cOf s i = 45 then i + 1 else i) (he : run digB s f ≠ f) (hn : 1073741824 < num 1073741825 s f 0) : wordR s i = .err 5 i := by
  rw [wr_num0 hc hl hf, if_neg he, if_pos hn]
theorem wr_glued {s : ByteArray} {i f e : Nat} {n : Int} (hc : cOf s i ≠ 59) (hl : letB (cOf s i) = false) (hf : f = if cOf s i = 45 then i + 1 else i) (hr : run digB s f = e) (he : e ≠ f) (hv : num 1073741825 s f 0 = n) (hn : ¬ 1073741824 < n) (h1 : e < s.size) (h2 : letB (cOf s e) = true) : wordR s i = .err 4 e := by
  rw [wr_num0 hc hl hf, hr, hv, if_neg he, if_neg hn, if_pos ⟨h1, h2⟩]
theorem wr_num {s : ByteArray} {i f e : Nat} {n : Int} (hc : cOf s i ≠ 59) (hl : letB (cOf s i) = false) (hf : f = if cOf s i = 45 then i + 1 else i) (hr : run digB s f = e) (he : e ≠ f) (hv : num 1073741825 s f 0 = n) (hn : ¬ 1073741824 < n) (h1 : ¬ (e < s.size ∧ letB (cOf s e) = true)) : wordR s i = .ok 2 (s.extract i e) (if cOf s i = 45 then -n else n) e := by
  rw [wr_num0 hc hl hf, hr, hv, if_neg he, if_neg hn, if_neg h1]
theorem wordR_err {s : ByteArray} {i : Nat} {e : Int} {a : Nat} (h : wordR s i = .err e a) : 1 ≤ e ∧ e ≤ 12 := by
  unfold wordR at h
  split at h
  · cases h
  · split at h
    · split at h
      · injection h with h1 h2; omega
      · cases h
    · simp only at h
      generalize (if cOf s i = 45 then i + 1 else i) = f at h
      split at h
      · injection h with h1 h2; omega
      · split at h
        · injection h with h1 h2; omega
        · split at h
          · injection h with h1 h2; omega
          · cases h
theorem scanF_pre (s : ByteArray) : ∀ f i acc, (∃ l, (scanF s f i acc).1 = acc ++ l) ∨ (scanF s f i acc).1 = []
  | 0, i, acc => .inl ⟨[], by simp [scanF]⟩
  | f + 1, i, acc => by
    unfold scanF
    split
    · split
      · exact scanF_pre s f _ _
      · split
        · exact scanF_pre s f _ _
        · cases hw : wordR s i with
          | err e a => exact .inr rfl
          | ok k t n nx =>
            rcases scanF_pre s f nx (acc ++ [⟨k, t, n, i⟩]) with ⟨l, h⟩ | h
            · exact .inl ⟨[⟨k, t, n, i⟩] ++ l, by rw [← List.append_assoc]; exact h⟩
            · exact .inr h
    · exact .inl ⟨[], by simp⟩
/-- One round of the scanner. -/
theorem scan_blank {s : ByteArray} {f i : Nat} {acc : List WV} {R : List WV × Int × Nat} (h : scanF s f i acc = R) (hi : i < s.size) (hf : s.size - i < f) (hc : cOf s i = 32 ∨ cOf s i = 9 ∨ cOf s i = 10) : ∃ f', scanF s f' (i + 1) acc = R ∧ s.size - (i + 1) < f' := by
  cases f with
  | zero => omega
  | succ f => simp only [scanF, if_pos hi, if_pos hc] at h; exact ⟨f, h, by omega⟩
theorem scan_note {s : ByteArray} {f i : Nat} {acc : List WV} {R : List WV × Int × Nat} (h : scanF s f i acc = R) (hi : i < s.size) (hf : s.size - i < f) (hc : cOf s i = 35) : ∃ f', scanF s f' (run notLf s i) acc = R ∧ s.size - run notLf s i < f' := by
  cases f with
  | zero => omega
  | succ f =>
    have hn : ¬ (cOf s i = 32 ∨ cOf s i = 9 ∨ cOf s i = 10) := by omega
    simp only [scanF, if_pos hi, if_neg hn, if_pos hc] at h
    have hge : i + 1 ≤ run notLf s i := by rw [← run_step hi (p := notLf) (by simp [notLf]; omega)]; exact run_ge _ _ _
    exact ⟨f, h, by omega⟩
theorem scan_err {s : ByteArray} {f i : Nat} {acc : List WV} {R : List WV × Int × Nat} {e : Int} {a : Nat} (h : scanF s f i acc = R) (hi : i < s.size) (hf : s.size - i < f) (hc : ¬ (cOf s i = 32 ∨ cOf s i = 9 ∨ cOf s i = 10)) (hn : cOf s i ≠ 35) (hw : wordR s i = .err e a) : R = ([], e, a) := by
  cases f with
  | zero => omega
  | succ f => simp only [scanF, if_pos hi, if_neg hc, if_neg hn, hw] at h; exact h.symm
theorem scan_word {s : ByteArray} {f i : Nat} {acc : List WV} {R : List WV × Int × Nat} {k : Int} {t : ByteArray} {n : Int} {nx : Nat} (h : scanF s f i acc = R) (hi : i < s.size) (hf : s.size - i < f) (hc : ¬ (cOf s i = 32 ∨ cOf s i = 9 ∨ cOf s i = 10)) (hn : cOf s i ≠ 35) (hw : wordR s i = .ok k t n nx) :
    ∃ f', scanF s f' nx (acc ++ [⟨k, t, n, i⟩]) = R ∧ s.size - nx < f' := by
  cases f with
  | zero => omega
  | succ f =>
    simp only [scanF, if_pos hi, if_neg hc, if_neg hn, hw] at h
    have := wordR_ok hi hw
    exact ⟨f, h, by omega⟩
end Go.Proofs.YteondblmcooklaaDoor
