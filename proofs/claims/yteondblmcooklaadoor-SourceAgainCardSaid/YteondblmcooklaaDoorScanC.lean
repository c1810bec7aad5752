/- A comment in front of a text shifts its words and nothing else: plain functions. -/
import Derived.Test.YteondblmcooklaaDoorScanSpec
namespace Go.Proofs.YteondblmcooklaaDoor
open Go
theorem size_app (h s : ByteArray) : (h ++ s).size = h.size + s.size := ByteArray.size_append
theorem byteAt_app (h s : ByteArray) (i : Nat) : byteAt (h ++ s) (h.size + i) = byteAt s i := by
  have e : (h ++ s).data.toList = h.data.toList ++ s.data.toList := by simp
  have l : h.data.toList.length = h.size := by simp
  simp only [byteAt, e, List.getD, ← l, List.getElem?_append_right (Nat.le_add_right _ _), Nat.add_sub_cancel_left]
theorem byteAt_app_left (h s : ByteArray) {i : Nat} (hi : i < h.size) : byteAt (h ++ s) i = byteAt h i := by
  have e : (h ++ s).data.toList = h.data.toList ++ s.data.toList := by simp
  have l : h.data.toList.length = h.size := by simp
  simp only [byteAt, e, List.getD]
  rw [List.getElem?_append_left (by rw [l]; exact hi)]
theorem cOf_app (h s : ByteArray) (i : Nat) : cOf (h ++ s) (h.size + i) = cOf s i := by unfold cOf; rw [byteAt_app]
theorem cOf_app_left (h s : ByteArray) {i : Nat} (hi : i < h.size) : cOf (h ++ s) i = cOf h i := by unfold cOf; rw [byteAt_app_left h s hi]
theorem runTo_app (p : Int → Bool) (h s : ByteArray) : ∀ f i, runTo p (h ++ s) f (h.size + i) = h.size + runTo p s f i
  | 0, i => rfl
  | f + 1, i => by
    unfold runTo
    rw [cOf_app, size_app]
    by_cases hc : i < s.size ∧ p (cOf s i) = true
    · rw [if_pos hc, if_pos ⟨by omega, hc.2⟩, Nat.add_assoc, runTo_app p h s f (i + 1)]
    · rw [if_neg hc, if_neg (fun hh => hc ⟨by omega, hh.2⟩)]
theorem run_app (p : Int → Bool) (h s : ByteArray) (i : Nat) : run p (h ++ s) (h.size + i) = h.size + run p s i := by
  unfold run
  rw [size_app, show h.size + s.size - (h.size + i) = s.size - i by omega]
  exact runTo_app p h s _ i
theorem numTo_app (M : Int) (h s : ByteArray) : ∀ f i n, numTo M (h ++ s) f (h.size + i) n = numTo M s f i n
  | 0, i, n => rfl
  | f + 1, i, n => by
    unfold numTo
    rw [cOf_app, size_app]
    by_cases hc : i < s.size ∧ digB (cOf s i) = true
    · rw [if_pos hc, if_pos ⟨by omega, hc.2⟩, Nat.add_assoc, numTo_app M h s f (i + 1)]
    · rw [if_neg hc, if_neg (fun hh => hc ⟨by omega, hh.2⟩)]
theorem num_app (M : Int) (h s : ByteArray) (i : Nat) (n : Int) : num M (h ++ s) (h.size + i) n = num M s i n := by
  unfold num
  rw [size_app, show h.size + s.size - (h.size + i) = s.size - i by omega]
  exact numTo_app M h s _ i n
theorem extract_app (h s : ByteArray) (i e : Nat) : (h ++ s).extract (h.size + i) (h.size + e) = s.extract i e := by
  apply ByteArray.ext
  rw [ByteArray.data_extract, ByteArray.data_extract, ByteArray.data_append]
  have l : h.data.size = h.size := rfl
  apply Array.ext'
  rw [Array.toList_extract, Array.toList_extract, Array.toList_append]
  simp only [List.extract_eq_take_drop]
  have l' : h.data.toList.length = h.size := by simp
  rw [← l', List.drop_append, List.drop_eq_nil_of_le (by omega), show h.data.toList.length + i - h.data.toList.length = i by omega, show h.data.toList.length + e - (h.data.toList.length + i) = e - i by omega]
  simp
def shR (n : Nat) : WR → WR
  | .err e a => .err e (n + a)
  | .ok k t v nx => .ok k t v (n + nx)
theorem wordR_app (h s : ByteArray) (i : Nat) : wordR (h ++ s) (h.size + i) = shR h.size (wordR s i) := by
  unfold wordR
  rw [cOf_app, run_app, extract_app]
  by_cases h0 : cOf s i = 59
  · rw [if_pos h0, if_pos h0]; rfl
  · rw [if_neg h0, if_neg h0]
    by_cases h1 : letB (cOf s i) = true
    · rw [if_pos h1, if_pos h1, show h.size + run alnumB s i - (h.size + i) = run alnumB s i - i by omega]
      split <;> rfl
    · rw [if_neg h1, if_neg h1]
      have hf : (if cOf s i = 45 then h.size + i + 1 else h.size + i) = h.size + (if cOf s i = 45 then i + 1 else i) := by split <;> rfl
      simp only
      rw [hf]
      generalize (if cOf s i = 45 then i + 1 else i) = f
      rw [run_app, num_app, size_app, cOf_app, extract_app]
      by_cases g1 : run digB s f = f
      · rw [if_pos g1, if_pos (by omega)]; rfl
      · rw [if_neg g1, if_neg (by omega)]
        by_cases g2 : 1073741824 < num 1073741825 s f 0
        · rw [if_pos g2, if_pos g2]; rfl
        · rw [if_neg g2, if_neg g2]
          by_cases g3 : run digB s f < s.size ∧ letB (cOf s (run digB s f)) = true
          · rw [if_pos g3, if_pos ⟨by omega, g3.2⟩]; rfl
          · rw [if_neg g3, if_neg (fun hh => g3 ⟨by omega, hh.2⟩)]; rfl
def shW (n : Nat) (x : WV) : WV := { x with at_ := n + x.at_ }
def shO (n : Nat) (r : List WV × Int × Nat) : List WV × Int × Nat := (r.1.map (shW n), r.2.1, if r.2.1 = 0 then 0 else n + r.2.2)
theorem scanF_app (h s : ByteArray) : ∀ f i acc, scanF (h ++ s) f (h.size + i) (acc.map (shW h.size)) = shO h.size (scanF s f i acc)
  | 0, i, acc => by simp [scanF, shO]
  | f + 1, i, acc => by
    unfold scanF
    rw [cOf_app, size_app, run_app, wordR_app]
    by_cases hlt : i < s.size
    · rw [if_pos hlt, if_pos (by omega)]
      by_cases h1 : cOf s i = 32 ∨ cOf s i = 9 ∨ cOf s i = 10
      · rw [if_pos h1, if_pos h1, Nat.add_assoc]; exact scanF_app h s f (i + 1) acc
      · rw [if_neg h1, if_neg h1]
        by_cases h2 : cOf s i = 35
        · rw [if_pos h2, if_pos h2]; exact scanF_app h s f _ acc
        · rw [if_neg h2, if_neg h2]
          cases hw : wordR s i with
          | err e a =>
            have := wordR_err hw
            simp only [shR, shO]
            rw [if_neg (by omega)]; rfl
          | ok k t n nx =>
            simp only [shR]
            have := scanF_app h s f nx (acc ++ [⟨k, t, n, i⟩])
            rw [List.map_append] at this
            exact this
    · rw [if_neg hlt, if_neg (by omega)]; simp [shO]
theorem scanF_more (s : ByteArray) : ∀ f i acc d, s.size - i < f → scanF s (f + d) i acc = scanF s f i acc
  | 0, i, acc, d, h => by omega
  | f + 1, i, acc, d, h => by
    rw [show f + 1 + d = (f + d) + 1 by omega]
    unfold scanF
    by_cases hlt : i < s.size
    · rw [if_pos hlt, if_pos hlt]
      by_cases h1 : cOf s i = 32 ∨ cOf s i = 9 ∨ cOf s i = 10
      · rw [if_pos h1, if_pos h1]; exact scanF_more s f (i + 1) acc d (by omega)
      · rw [if_neg h1, if_neg h1]
        by_cases h2 : cOf s i = 35
        · rw [if_pos h2, if_pos h2]
          have hge : i + 1 ≤ run notLf s i := by rw [← run_step hlt (p := notLf) (by simp [notLf]; omega)]; exact run_ge _ _ _
          exact scanF_more s f _ acc d (by omega)
        · rw [if_neg h2, if_neg h2]
          cases hw : wordR s i with
          | err e a => rfl
          | ok k t n nx =>
            have := wordR_ok hlt hw
            exact scanF_more s f _ _ d (by omega)
    · rw [if_neg hlt, if_neg hlt]
/-- The law of comments: head = '#', a note without a line feed, a line feed. -/
theorem scanR_note (h s : ByteArray) (m : Nat) (hm : h.size = m + 1) (hm1 : 1 ≤ m) (h0 : cOf h 0 = 35) (hn : ∀ j, 1 ≤ j → j < m → cOf h j ≠ 10) (hl : cOf h m = 10) (hs : s.size ≤ 4000) (hh : h.size ≤ 300) :
    scanR (h ++ s) = shO h.size (scanR s) := by
  have hsz := size_app h s
  unfold scanR
  rw [if_neg (by omega), if_neg (by omega)]
  have hr : run notLf (h ++ s) 0 = m := by
    have hge : ∀ k, k ≤ m → run notLf (h ++ s) k = run notLf (h ++ s) 0 := by
      intro k
      induction k with
      | zero => intro _; rfl
      | succ k ih =>
        intro hk
        have hp : notLf (cOf (h ++ s) k) = true := by
          rw [cOf_app_left h s (by omega)]
          rcases Nat.eq_zero_or_pos k with hz | hz
          · rw [hz, h0]; rfl
          · have := hn k hz (by omega)
            simp [notLf, this]
        rw [run_step (by omega) hp]
        exact ih (by omega)
    rw [← hge m (Nat.le_refl _)]
    apply run_stop
    rintro ⟨_, hp⟩
    rw [cOf_app_left h s (by omega), hl] at hp
    simp [notLf] at hp
  have c0 : cOf (h ++ s) 0 = 35 := by rw [cOf_app_left h s (by omega), h0]
  have cm : cOf (h ++ s) m = 10 := by rw [cOf_app_left h s (by omega), hl]
  rw [hsz, show h.size + s.size + 1 = (s.size + 1 + (m - 1)) + 1 + 1 by omega]
  rw [scanF, if_pos (by omega), if_neg (by omega), if_pos c0, hr, scanF, if_pos (by omega), if_pos (.inr (.inr cm))]
  rw [scanF_more _ _ _ _ _ (by rw [hsz]; omega)]
  have := scanF_app h s (s.size + 1) 0 []
  rw [Nat.add_zero, hm] at this
  rw [hm]
  exact this
theorem wordR_pl {s : ByteArray} {i : Nat} {e : Int} {a : Nat} (hi : i < s.size) (h : wordR s i = .err e a) : a ≤ s.size := by
  unfold wordR at h
  split at h
  · cases h
  · split at h
    · split at h
      · injection h with h1 h2; omega
      · cases h
    · simp only at h
      generalize hf : (if cOf s i = 45 then i + 1 else i) = f at h
      have hle := run_le digB s (i := f) (by rw [← hf]; split <;> omega)
      split at h
      · injection h with h1 h2; omega
      · split at h
        · injection h with h1 h2; omega
        · split at h
          · injection h with h1 h2; omega
          · cases h
theorem scan_place (s : ByteArray) : ∀ f i acc, (scanF s f i acc).2.2 ≤ s.size
  | 0, i, acc => Nat.zero_le _
  | f + 1, i, acc => by
    unfold scanF
    by_cases hlt : i < s.size
    · rw [if_pos hlt]
      split
      · exact scan_place s f _ _
      · split
        · exact scan_place s f _ _
        · cases hw : wordR s i with
          | err e a => exact wordR_pl hlt hw
          | ok k t n nx => exact scan_place s f _ _
    · rw [if_neg hlt]; exact Nat.zero_le _
theorem scan_ats (s : ByteArray) : ∀ f i acc, (∀ x ∈ acc, x.at_ < s.size) → ∀ x ∈ (scanF s f i acc).1, x.at_ < s.size
  | 0, i, acc, h => h
  | f + 1, i, acc, h => by
    unfold scanF
    by_cases hlt : i < s.size
    · rw [if_pos hlt]
      split
      · exact scan_ats s f _ _ h
      · split
        · exact scan_ats s f _ _ h
        · cases hw : wordR s i with
          | err e a => simp
          | ok k t n nx =>
            refine scan_ats s f _ _ ?_
            intro x hx
            rcases List.mem_append.1 hx with hx | hx
            · exact h x hx
            · simp at hx; subst hx; exact hlt
    · rw [if_neg hlt]; exact h
theorem scanR_place (s : ByteArray) : (scanR s).2.2 ≤ s.size := by
  unfold scanR
  split
  · exact Nat.zero_le _
  · exact scan_place _ _ _ _
theorem scanR_ats (s : ByteArray) : ∀ x ∈ (scanR s).1, x.at_ < s.size := by
  unfold scanR
  split
  · simp
  · exact scan_ats _ _ _ _ (by simp)
/-- The head of a comment. -/
theorem head_note (note s : ByteArray) (hn : ∀ j, j < note.size → cOf note j ≠ 10) (hs : s.size ≤ 4000) (hl : note.size ≤ 200) :
    (⟨#[35]⟩ ++ note ++ ⟨#[10]⟩ : ByteArray).size = note.size + 2 ∧ scanR (⟨#[35]⟩ ++ note ++ ⟨#[10]⟩ ++ s) = shO (note.size + 2) (scanR s) := by
  have z1 : (⟨#[35]⟩ : ByteArray).size = 1 := rfl
  have z2 : (⟨#[10]⟩ : ByteArray).size = 1 := rfl
  have hz : (⟨#[35]⟩ ++ note : ByteArray).size = note.size + 1 := by rw [size_app, z1]; omega
  have hsz : (⟨#[35]⟩ ++ note ++ ⟨#[10]⟩ : ByteArray).size = note.size + 2 := by rw [size_app, hz, z2]
  refine ⟨hsz, ?_⟩
  rw [← hsz]
  refine scanR_note _ s (note.size + 1) hsz (by omega) ?_ ?_ ?_ hs (by omega)
  · rw [cOf_app_left _ _ (by omega), cOf_app_left _ _ (by omega)]; decide
  · intro j h1 h2
    rw [cOf_app_left _ _ (by omega)]
    obtain ⟨i, rfl⟩ : ∃ i, j = 1 + i := ⟨j - 1, by omega⟩
    rw [← z1, cOf_app]
    exact hn i (by omega)
  · have := cOf_app (⟨#[35]⟩ ++ note) ⟨#[10]⟩ 0
    rw [hz, Nat.add_zero] at this
    rw [this]; decide
end Go.Proofs.YteondblmcooklaaDoor
