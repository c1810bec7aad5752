/- Plain: the statements of a text can be written, and are read back. -/
import Derived.Test.YteondblmcooklaaDoorSaA
import Derived.Test.YteondblmcooklaaDoorSaB
namespace Go.Proofs.YteondblmcooklaaDoor
open Go Go.RowKit
set_option linter.unusedVariables false
abbrev Core := Int × ByteArray × Int
/-- The words of a text, and how long they are. -/
def ChainA (s : ByteArray) : Nat → List WV → Prop
  | _, [] => True
  | i, x :: r => i ≤ x.at_ ∧ x.at_ + x.text.size ≤ s.size ∧ IsA x.kind x.text x.num ∧ ChainA s (x.at_ + x.text.size) r
theorem chainA_le {s : ByteArray} {i j : Nat} (h : j ≤ i) : ∀ {l}, ChainA s i l → ChainA s j l
  | [], _ => trivial
  | x :: r, hc => ⟨Nat.le_trans h hc.1, hc.2⟩
theorem scan_chainA (s : ByteArray) : ∀ f i acc, s.size - i < f → (scanF s f i acc).2.1 = 0 → ∃ m, (scanF s f i acc).1 = acc ++ m ∧ ChainA s i m
  | 0, i, acc, hf, h0 => by omega
  | f + 1, i, acc, hf, h0 => by
    unfold scanF at h0 ⊢
    by_cases hlt : i < s.size
    · rw [if_pos hlt] at h0 ⊢
      by_cases h1 : cOf s i = 32 ∨ cOf s i = 9 ∨ cOf s i = 10
      · rw [if_pos h1] at h0 ⊢
        obtain ⟨m, hm, hc⟩ := scan_chainA s f (i + 1) acc (by omega) h0
        exact ⟨m, hm, chainA_le (by omega) hc⟩
      · rw [if_neg h1] at h0 ⊢
        by_cases h2 : cOf s i = 35
        · rw [if_pos h2] at h0 ⊢
          have hge : i + 1 ≤ run notLf s i := by rw [← run_step hlt (p := notLf) (by simp [notLf]; omega)]; exact run_ge _ _ _
          obtain ⟨m, hm, hc⟩ := scan_chainA s f (run notLf s i) acc (by omega) h0
          exact ⟨m, hm, chainA_le (by omega) hc⟩
        · rw [if_neg h2] at h0 ⊢
          cases hw : wordR s i with
          | err e a =>
            rw [hw] at h0
            have := wordR_err hw
            simp only at h0
            omega
          | ok k t n nx =>
            rw [hw] at h0
            simp only at h0 ⊢
            have hok := wordR_ok hlt hw
            have hnx : nx = i + t.size := by omega
            subst hnx
            obtain ⟨m, hm, hc⟩ := scan_chainA s f (i + t.size) (acc ++ [⟨k, t, n, i⟩]) (by omega) h0
            exact ⟨⟨k, t, n, i⟩ :: m, by rw [hm]; simp, Nat.le_refl _, hok.2.1, isA_of hlt hw h1 h2, hc⟩
    · rw [if_neg hlt]
      exact ⟨[], by simp, trivial⟩
def cl (c : Core) : Nat := if c.1 = 1 then c.2.1.size else if c.1 = 2 then (Lib.itoa c.2.2).length else 1
def sz (l : List Core) : Nat := (l.map fun c => 1 + cl c).sum
theorem sz_app (l m : List Core) : sz (l ++ m) = sz l + sz m := by unfold sz; rw [List.map_append, List.sum_append]
theorem sz_cons (c : Core) (m : List Core) : sz (c :: m) = 1 + cl c + sz m := by unfold sz; rw [List.map_cons, List.sum_cons]
theorem sz_nil : sz [] = 0 := rfl
theorem cl_core {x : WV} (h : IsA x.kind x.text x.num) : cl (core x) ≤ x.text.size := by
  have h0 := h.1
  by_cases h1 : x.kind = 1
  · rw [core1 h1]; exact Nat.le_refl _
  · by_cases h2 : x.kind = 2
    · rw [core2 h2]
      rw [h2] at h
      exact itoa_short h
    · unfold core cl
      rw [if_neg h1, if_neg h2, if_neg h1, if_neg h2]
      exact h0
theorem chainA_sz {s : ByteArray} : ∀ {l : List WV} {i}, i ≤ s.size → ChainA s i l → sz (l.map core) + 2 * i ≤ 2 * s.size
  | [], i, hi, _ => by simp [sz]; omega
  | y :: r, i, hi, hc => by
    obtain ⟨h1, h2, h3, h4⟩ := hc
    have := chainA_sz h2 h4
    have := h3.1
    have := cl_core h3
    rw [List.map_cons, sz_cons]
    omega
theorem chainA_isA {s : ByteArray} : ∀ {l i}, ChainA s i l → ∀ x ∈ l, IsA x.kind x.text x.num
  | [], _, _, x, hx => by cases hx
  | y :: r, i, hc, x, hx => by
    rcases List.mem_cons.1 hx with rfl | h
    · exact hc.2.2.1
    · exact chainA_isA hc.2.2.2 x h
/-- What a word must be. -/
def okC (c : Core) : Prop := (∃ t, c = coreT t ∧ IsA 1 t 0) ∨ (∃ n : Int, c = coreN n ∧ -1073741824 ≤ n ∧ n ≤ 1073741824) ∨ c = coreE
theorem isA_name {t : ByteArray} {n : Int} (h : IsA 1 t n) : n = 0 := by
  have hw := h.2.2.2 ⟨#[]⟩ (.inr (.inl rfl))
  unfold wordR at hw
  by_cases h59 : cOf (t ++ ⟨#[]⟩) 0 = 59
  · rw [if_pos h59] at hw; cases hw
  · rw [if_neg h59] at hw
    by_cases hl : letB (cOf (t ++ ⟨#[]⟩) 0) = true
    · rw [if_pos hl] at hw
      split at hw
      · cases hw
      · simp only [WR.ok.injEq] at hw; omega
    · rw [if_neg hl] at hw
      exfalso
      obtain ⟨f, hf⟩ : ∃ f, f = if cOf (t ++ ⟨#[]⟩) 0 = 45 then 0 + 1 else 0 := ⟨_, rfl⟩
      rw [← hf] at hw
      simp only at hw
      split at hw
      · cases hw
      · split at hw
        · cases hw
        · split at hw
          · cases hw
          · simp only [WR.ok.injEq] at hw; omega
theorem okC_of {x : WV} (h : IsA x.kind x.text x.num) : okC (core x) := by
  have hw := h.2.2.2 ⟨#[]⟩ (.inr (.inl rfl))
  have hk := wordR_ok (by rw [app_nil]; exact h.1) hw
  by_cases h1 : x.kind = 1
  · rw [core1 h1]
    rw [h1] at h
    have := isA_name h
    rw [this] at h
    exact .inl ⟨_, rfl, h⟩
  · by_cases h2 : x.kind = 2
    · rw [core2 h2]
      exact .inr (.inl ⟨_, rfl, by omega, by omega⟩)
    · rw [core3 (by omega)]
      exact .inr (.inr rfl)
theorem isA_semi : IsA 3 ⟨#[59]⟩ 0 := by
  refine ⟨by decide, by decide, by decide, fun x _ => ?_⟩
  have h0 : cOf ((⟨#[59]⟩ : ByteArray) ++ x) 0 = 59 := by rw [cOf_app_left _ _ (by decide)]; rfl
  unfold wordR
  rw [h0, if_pos rfl]
  rfl
/-- The text of a word. -/
def tx (c : Core) : ByteArray := if c.1 = 1 then c.2.1 else if c.1 = 2 then ⟨(Lib.itoa c.2.2).toArray⟩ else ⟨#[59]⟩
def tk (c : Core) (sep : ByteArray) : Tk := ⟨c.1, tx c, c.2.2, sep⟩
theorem isA_tx {c : Core} (h : okC c) : IsA c.1 (tx c) c.2.2 := by
  rcases h with ⟨t, rfl, h⟩ | ⟨n, rfl, h1, h2⟩ | rfl
  · exact h
  · exact isA_itoa n h1 h2
  · exact isA_semi
def blk : ByteArray := ⟨#[32]⟩
def lf : ByteArray := ⟨#[10]⟩
/-- Words with blanks between them, then others. -/
def link : List Core → List Tk → List Tk
  | [], r => r
  | [c], r => tk c ⟨#[]⟩ :: r
  | c :: d :: l, r => tk c blk :: link (d :: l) r
def bytes (s : ByteArray) : List UInt8 := s.data.toList
theorem bytes_app (a b : ByteArray) : bytes (a ++ b) = bytes a ++ bytes b := by unfold bytes; rw [ByteArray.data_append, Array.toList_append]
theorem catT_link : ∀ (c : Core) (l : List Core) (r : List Tk), bytes (catT (link (c :: l) r)) = bytes (tx c) ++ (l.flatMap (fun d => 32 :: bytes (tx d)) ++ bytes (catT r))
  | c, [], r => by simp only [link, catT, tk, bytes_app, List.flatMap_nil]; rfl
  | c, d :: l, r => by
    simp only [link, catT, tk, bytes_app, List.flatMap_cons]
    rw [catT_link d l r]
    show _ ++ ([32] ++ _) = _
    simp
theorem size_bytes (s : ByteArray) : s.size = (bytes s).length := by unfold bytes; rw [Array.length_toList]; rfl
theorem cOf_bytes {s : ByteArray} {b : UInt8} {l : List UInt8} (h : bytes s = b :: l) : cOf s 0 = (b.toNat : Int) := by
  unfold cOf byteAt
  unfold bytes at h
  rw [h]
  rfl
theorem okT_link : ∀ (c : Core) (l : List Core) (r : List Tk), (∀ d ∈ c :: l, okC d) → OkT r → stopC (cOf (catT r) 0) → OkT (link (c :: l) r)
  | c, [], r, h, hr, hs => by
    refine ⟨isA_tx (h c (by simp)), .inl rfl, .inr (.inr ?_), hr⟩
    show stopC (cOf ((⟨#[]⟩ : ByteArray) ++ catT r) 0)
    rw [nil_app]
    exact hs
  | c, d :: l, r, h, hr, hs => by
    refine ⟨isA_tx (h c (by simp)), .inr ⟨rfl, .inl rfl⟩, .inr (.inr (.inl ?_)), okT_link d l r (fun e he => h e (by simp [he])) hr hs⟩
    show cOf (blk ++ catT (link (d :: l) r)) 0 = 32
    rw [cOf_app_left _ _ (by decide)]
    rfl
def semi (r : List Tk) : List Tk := tk coreE lf :: r
theorem bytes_semi (r : List Tk) : bytes (catT (semi r)) = 59 :: 10 :: bytes (catT r) := by
  simp only [semi, catT, tk, bytes_app]
  rfl
theorem okT_semi {r : List Tk} (h : OkT r) : OkT (semi r) := ⟨isA_semi, .inr ⟨rfl, .inr rfl⟩, .inl rfl, h⟩
/-- The words of statements, as they are written. -/
def toks : List IV → List Tk
  | [] => []
  | x :: l => link (coreT x.word :: ((if x.word = tTable then [] else [coreT x.name]) ++ x.keys.flatMap coreK)) (semi (toks l))
theorem coreX_eq (x : IV) : coreX x = (coreT x.word :: ((if x.word = tTable then [] else [coreT x.name]) ++ x.keys.flatMap coreK)) ++ [coreE] := by unfold coreX; simp
theorem okT_toks : ∀ l : List IV, (∀ c ∈ l.flatMap coreX, okC c) → OkT (toks l)
  | [], _ => trivial
  | x :: l, h => by
    refine okT_link _ _ _ (fun d hd => h d ?_) (okT_semi (okT_toks l fun c hc => h c (by rw [List.flatMap_cons]; exact List.mem_append_right _ hc))) (.inr (.inr (cOf_bytes (bytes_semi _))))
    rw [List.flatMap_cons, coreX_eq]
    exact List.mem_append_left _ (List.mem_append_left _ hd)
def okN (x : IV) : Prop := x.name = ⟨#[]⟩ ↔ x.word = tTable
theorem bytes_nums (l : List Int) : (l.map coreN).flatMap (fun d => 32 :: bytes (tx d)) = valsB l := by
  unfold valsB
  rw [List.flatMap_map]
  rfl
theorem bytes_keys (l : List KV) : (l.flatMap coreK).flatMap (fun d => 32 :: bytes (tx d)) = l.flatMap keyB := by
  rw [List.flatMap_assoc]
  congr 1
  funext k
  unfold coreK keyB
  rw [List.flatMap_cons, bytes_nums]
  rfl
theorem bytes_toks : ∀ l : List IV, (∀ x ∈ l, okN x) → bytes (catT (toks l)) = textB l
  | [], _ => rfl
  | x :: l, h => by
    have hx := h x (by simp)
    have ih := bytes_toks l fun y hy => h y (by simp [hy])
    unfold toks
    rw [catT_link, bytes_semi, ih]
    unfold textB
    rw [List.flatMap_cons]
    unfold itemB headB
    rw [List.flatMap_append, bytes_keys]
    by_cases ht : x.word = tTable
    · rw [if_pos ht, if_pos (hx.2 ht)]
      show x.word.data.toList ++ _ = _
      simp
    · rw [if_neg ht, if_neg (fun hn => ht (hx.1 hn))]
      show x.word.data.toList ++ (([coreT x.name].flatMap _ ++ _) ++ _) = _
      simp only [List.flatMap_cons, List.flatMap_nil, List.append_nil, List.append_assoc, List.cons_append, List.nil_append]
      rfl
def coreTk (y : Tk) : Core := if y.k = 1 then (1, y.t, 0) else if y.k = 2 then (2, ⟨#[]⟩, y.n) else (y.k, ⟨#[]⟩, 0)
theorem core_put : ∀ (l : List Tk) (i : Nat), (put i l).map core = l.map coreTk
  | [], i => rfl
  | y :: r, i => by simp only [put, List.map_cons]; rw [core_put r]; rfl
theorem coreTk_tk {c : Core} (h : okC c) (s : ByteArray) : coreTk (tk c s) = c := by
  rcases h with ⟨t, rfl, h⟩ | ⟨n, rfl, h1, h2⟩ | rfl <;> rfl
theorem core_link : ∀ (l : List Core) (r : List Tk), (∀ d ∈ l, okC d) → (link l r).map coreTk = l ++ r.map coreTk
  | [], r, h => rfl
  | [c], r, h => by simp only [link, List.map_cons]; rw [coreTk_tk (h c (by simp))]; rfl
  | c :: d :: l, r, h => by
    simp only [link, List.map_cons]
    rw [coreTk_tk (h c (by simp)), core_link (d :: l) r fun e he => h e (by simp [he])]
    rfl
theorem core_toks : ∀ l : List IV, (∀ c ∈ l.flatMap coreX, okC c) → (toks l).map coreTk = l.flatMap coreX
  | [], _ => rfl
  | x :: l, h => by
    unfold toks
    rw [core_link _ _ (fun d hd => h d (by rw [List.flatMap_cons, coreX_eq]; exact List.mem_append_left _ (List.mem_append_left _ hd)))]
    rw [List.flatMap_cons, coreX_eq]
    unfold semi
    rw [List.map_cons, coreTk_tk (.inr (.inr rfl)), core_toks l fun c hc => h c (by rw [List.flatMap_cons]; exact List.mem_append_right _ hc)]
    simp
theorem sz_link : ∀ (c : Core) (l : List Core), (bytes (tx c) ++ l.flatMap (fun d => 32 :: bytes (tx d))).length + 1 = sz (c :: l)
  | c, l => by
    have key : ∀ c : Core, (bytes (tx c)).length = cl c := fun c => by
      rw [← size_bytes]
      unfold tx cl
      split
      · rfl
      · split
        · show (Lib.itoa c.2.2).toArray.size = _; simp
        · rfl
    have h2 : ∀ l : List Core, (l.flatMap (fun d => 32 :: bytes (tx d))).length = sz l := fun l => by
      induction l with
      | nil => rfl
      | cons d l ih => rw [List.flatMap_cons, List.length_append, ih, sz_cons, List.length_cons, key]; omega
    rw [List.length_append, h2, key, sz_cons]
    omega
theorem size_toks : ∀ l : List IV, (bytes (catT (toks l))).length ≤ sz (l.flatMap coreX)
  | [] => by simp [toks, catT, bytes]
  | x :: l => by
    have ih := size_toks l
    unfold toks
    rw [catT_link, bytes_semi, List.flatMap_cons, coreX_eq, sz_app, sz_app, ← sz_link, sz_cons]
    simp only [List.length_append, List.length_cons, sz_nil]
    have : cl coreE = 1 := rfl
    omega
theorem textB_sX {l m : List IV} (h : l.map sX = m.map sX) : textB l = textB m := by
  have key : ∀ l : List IV, textB l = (l.map sX).flatMap fun p => (p.1.data.toList ++ (if p.2.1 = ⟨#[]⟩ then [] else 32 :: p.2.1.data.toList)) ++ (p.2.2.flatMap fun k => 32 :: k.1.data.toList ++ valsB k.2) ++ [59, 10] := fun l => by
    unfold textB
    rw [List.flatMap_map]
    congr 1
    funext x
    unfold itemB headB sX
    simp only
    rw [List.flatMap_map]
    rfl
  rw [key, key, h]
/-- The statements of a text can be written, and are read back. -/
theorem again_any {s : ByteArray} (h : (parseR s).2.1 = 0) (hs : s.size ≤ 10000) : ∃ T : ByteArray, fmtR (parseR s).1 = (T, true) ∧ T.size ≤ 20000 ∧ (textB (parseR s).1).length ≤ 20000 ∧ (parseR T).2.1 = 0 ∧ (parseR T).1.map sX = (parseR s).1.map sX ∧ fmtR (parseR T).1 = (T, true) ∧ textB (parseR T).1 = textB (parseR s).1 := by
  obtain ⟨h1, h2, h3⟩ := parseR_all h
  obtain ⟨m, hm, hc⟩ : ∃ m, (scanR s).1 = [] ++ m ∧ ChainA s 0 m := by
    unfold scanR at h1 ⊢
    rw [if_neg (by omega)] at h1 ⊢
    exact scan_chainA s _ 0 [] (by omega) h1
  rw [List.nil_append] at hm
  have hA := chainA_isA hc
  have hZ := chainA_sz (Nat.zero_le _) hc
  rw [← hm] at hA hZ
  have hok : ∀ c ∈ (parseR s).1.flatMap coreX, okC c := fun c hcm => by
    rw [← h2] at hcm
    obtain ⟨x, hx, rfl⟩ := List.mem_map.1 hcm
    exact okC_of (hA x hx)
  have hnm : ∀ x ∈ (parseR s).1, okN x := fun x hx => by
    refine ⟨fun hn => Classical.byContradiction fun hw => ?_, h3 x hx⟩
    have hmem : coreT x.name ∈ (parseR s).1.flatMap coreX := by
      refine List.mem_flatMap.2 ⟨x, hx, ?_⟩
      unfold coreX
      rw [if_neg hw]
      simp
    rcases hok _ hmem with ⟨t, ht, hia⟩ | ⟨n, ht, _⟩ | ht
    · have : x.name = t := by simpa [coreT] using ht
      have h0 := hia.1
      rw [← this, hn] at h0
      exact absurd h0 (by decide)
    · simp [coreT, coreN] at ht
    · simp [coreT, coreE] at ht
  have hbt := bytes_toks _ hnm
  have hst := size_toks (parseR s).1
  rw [← h2] at hst
  rw [hbt] at hst
  have hT : (⟨(textB (parseR s).1).toArray⟩ : ByteArray) = catT (toks (parseR s).1) := by
    rw [← hbt]
    unfold bytes
    rw [Array.toArray_toList]
  have hsc : scanR (catT (toks (parseR s).1)) = (put 0 (toks (parseR s).1), 0, 0) := scanR_toks _ (okT_toks _ hok) (by rw [size_bytes, hbt]; omega)
  have hcore : (scanR s).1.map core = (scanR (catT (toks (parseR s).1))).1.map core := by
    rw [hsc]
    simp only
    rw [core_put, core_toks _ hok, h2]
  obtain ⟨h5, h6⟩ := parseR_core h1 (by rw [hsc]) hcore
  have htx := textB_sX h6
  have hE : eqL eqX (parseR (catT (toks (parseR s).1))).1 (parseR s).1 = true := (eqX_sXs _ _).2 h6.symm
  have hE2 : eqL eqX (parseR (catT (toks (parseR s).1))).1 (parseR (catT (toks (parseR s).1))).1 = true := (eqX_sXs _ _).2 rfl
  refine ⟨catT (toks (parseR s).1), ?_, by rw [size_bytes, hbt]; omega, by omega, by omega, h6.symm, ?_, htx.symm⟩
  · unfold fmtR
    rw [hT, if_neg (by rw [hE]; simp; omega)]
  · unfold fmtR
    rw [← htx, hT, if_neg (by rw [hE2]; simp; omega)]
theorem parseR_bad {s : ByteArray} (h : (parseR s).2.1 ≠ 0) : (parseR s).1 = [] := by
  have key : ∀ e f (acc : List IV) (l : List WV), (parseF e f acc l).2.1 ≠ 0 → (parseF e f acc l).1 = [] := by
    intro e f
    induction f with
    | zero => intro acc l h; simp [parseF] at h
    | succ f ih =>
      intro acc l h
      cases l with
      | nil => simp [parseF] at h
      | cons x l =>
        simp only [parseF] at h ⊢
        split
        · rfl
        · rename_i h4
          rw [if_neg h4] at h
          cases hI : itemF e (x :: l) with
          | err a b => rfl
          | ok y r =>
            rw [hI] at h
            exact ih _ _ h
  unfold parseR at h ⊢
  split
  · rfl
  · rename_i h1
    rw [if_neg h1] at h
    exact key _ _ _ _ h
end Go.Proofs.YteondblmcooklaaDoor
