/- A reader in memory; the contracts of source's at, is, take. -/
import Derived.Test.YteondblmcooklaaDoorSrcM
namespace Go.Proofs.YteondblmcooklaaDoor
open Go Go.RowKit
set_option linter.unusedVariables false
/-- A reader: what words are left, where the text ends. -/
structure RdAt (w : World) (rb N : Nat) (A : Option Addr) (l : List WV) (e c : Nat) : Prop where
  hw : w.cell? ⟨rb, 0, none⟩ = some (.slice A l.length c)
  he : w.cell? ⟨rb, 1, none⟩ = some (.int .i64 e)
  fz : ∀ o, w.frozen? ⟨rb, o, none⟩ = false
  lt : rb < w.heap.size
  nle : N ≤ rb
  cap : l.length ≤ c
  ws : WvAt w N A l
theorem RdAt.below {w w' : World} {rb N B : Nat} {A : Option Addr} {l : List WV} {e c : Nat} (h : RdAt w rb N A l e c) (hb : Below B w w') (hB : w.heap.size ≤ B) : RdAt w' rb N A l e c :=
  have h1 : rb < B := Nat.lt_of_lt_of_le h.lt hB
  ⟨(hb.cell (p := ⟨rb, 0, none⟩) h1).trans h.hw, (hb.cell (p := ⟨rb, 1, none⟩) h1).trans h.he, fun o => (hb.frozen (p := ⟨rb, o, none⟩) h1).trans (h.fz o), Nat.lt_of_lt_of_le h.lt hb.size, h.nle, h.cap, h.ws.below hb (by have := h.nle; omega)⟩
/-- All blocks from the reader's on but the reader's may change above a bound: a reader stays beside a store to another block. -/
theorem RdAt.set {w : World} {rb N : Nat} {A : Option Addr} {l : List WV} {e c : Nat} (h : RdAt w rb N A l e c) {p : Addr} (u : Value) (hp : rb < p.block) : RdAt (w.setCell p u) rb N A l e c := by
  have hk : ∀ b, b ≤ rb → (w.setCell p u).heap[b]? = w.heap[b]? := fun b hb => Below.heap_setCell _ _ _ _ (by omega)
  have hn := h.nle
  refine ⟨(World.cell?_of_block (hk rb (Nat.le_refl _))).trans h.hw, (World.cell?_of_block (hk rb (Nat.le_refl _))).trans h.he, fun o => (World.frozen?_of_block (hk rb (Nat.le_refl _))).trans (h.fz o), by simpa using h.lt, h.nle, h.cap, fun k x hx => ?_⟩
  obtain ⟨g, o, hA, hg, hc⟩ := h.ws k x hx
  exact ⟨g, o, hA, hg, fun j u hu => (World.cell?_of_block (hk g (by omega))).trans (hc j u hu)⟩
theorem RdAt.grown {w w' : World} {rb N : Nat} {A : Option Addr} {l : List WV} {e c : Nat} {row : Option Nat} (h : RdAt w rb N A l e c) (hg : w.grownBy w' row) (hr : ∀ k, row = some k → rb < k) : RdAt w' rb N A l e c := by
  have hl := h.lt
  have hk : ∀ b, b ≤ rb → w'.heap[b]? = w.heap[b]? := fun b hb => hg.block b (by omega) (fun e => by have := hr b e.symm; omega)
  have hn := h.nle
  refine ⟨(World.cell?_of_block (hk rb (Nat.le_refl _))).trans h.hw, (World.cell?_of_block (hk rb (Nat.le_refl _))).trans h.he, fun o => (World.frozen?_of_block (hk rb (Nat.le_refl _))).trans (h.fz o), Nat.lt_of_lt_of_le h.lt hg.size, h.nle, h.cap, fun k x hx => ?_⟩
  obtain ⟨g, o, hA, hg', hc⟩ := h.ws k x hx
  exact ⟨g, o, hA, hg', fun j u hu => (World.cell?_of_block (hk g (by omega))).trans (hc j u hu)⟩
theorem RdAt.alloc {w : World} {rb N : Nat} {A : Option Addr} {l : List WV} {e c : Nat} (h : RdAt w rb N A l e c) (o : Obj) : RdAt (w.alloc o) rb N A l e c := h.below ((Below.refl w.heap.size w).alloc (Nat.le_refl _) o) (Nat.le_refl _)
/-- What is thrown. -/
def flt (e : Int) (a : Nat) : List PanicEntry := [{ v := .iface 56 (.agg #[.int .i64 e, .int .i64 a]), recovered := false }]
def vOfW (x : WV) : Value := .agg #[.int .i64 x.kind, .string x.text, .int .i64 x.num, .int .i64 x.at_]
theorem at_any (w : World) (rb N e c : Nat) (A : Option Addr) (l : List WV) (h : RdAt w rb N A l e c) : Calls Tryd.prog 24 #[.pointer (some ⟨rb, 0, none⟩)] w fun ε w' => ε = .returned (.int .i64 (atR l e : Nat)) ∧ w = w' := by
  obtain ⟨hw, he, fz, lt, nle, cap, ws⟩ := h
  cases l with
  | nil =>
    clear ws cap
    simp only [List.length_nil] at hw
    go_enter Tryd.func24, Tryd.ntmps24; (try simp only [List.append_eq, List.cons_append, List.nil_append])
    go_wp2_with fail
    go_ret
    exact ⟨rfl, rfl⟩
  | cons x l =>
    obtain ⟨g, o, rfl⟩ := ws.form
    obtain ⟨hg, c0, c1, c2, c3⟩ := ws.head
    simp only [List.length_cons] at hw cap
    have i1 : ¬ ((l.length + 1 : Nat) : Int) = 0 := by omega
    have i2 : (0 : Int) < ((l.length + 1 : Nat) : Int) := by omega
    clear ws
    go_enter Tryd.func24, Tryd.ntmps24; (try simp only [List.append_eq, List.cons_append, List.nil_append])
    go_wp2_with fail
    go_ret
    exact ⟨rfl, rfl⟩
theorem is_any (w : World) (rb N e c : Nat) (A : Option Addr) (l : List WV) (h : RdAt w rb N A l e c) (k : Int) : Calls Tryd.prog 41 #[.pointer (some ⟨rb, 0, none⟩), .int .i64 k] w fun ε w' => ε = .returned (.bool (isK l k)) ∧ w = w' := by
  obtain ⟨hw, he, fz, lt, nle, cap, ws⟩ := h
  cases l with
  | nil =>
    clear ws cap
    simp only [List.length_nil] at hw
    go_enter Tryd.func41, Tryd.ntmps41; (try simp only [List.append_eq, List.cons_append, List.nil_append])
    go_wp2_with fail
    go_ret
    exact ⟨rfl, rfl⟩
  | cons x l =>
    obtain ⟨g, o, rfl⟩ := ws.form
    obtain ⟨hg, c0, c1, c2, c3⟩ := ws.head
    simp only [List.length_cons] at hw cap
    have i1 : (0 : Int) < ((l.length + 1 : Nat) : Int) := by omega
    clear ws
    go_enter Tryd.func41, Tryd.ntmps41; (try simp only [List.append_eq, List.cons_append, List.nil_append])
    go_wp2_with fail
    go_ret
    refine ⟨?_, rfl⟩
    simp [isK, Bool.beq_eq_decide_eq]
theorem take_bad (w : World) (rb N e c : Nat) (A : Option Addr) (l : List WV) (h : RdAt w rb N A l e c) (k : Int) (hk : isK l k = false) : Calls Tryd.prog 40 #[.pointer (some ⟨rb, 0, none⟩), .int .i64 k] w fun ε w' => ε = .panicked (flt 4 (atR l e)) ∧ Below w.heap.size w w' := by
  have h1 := h.alloc (.cells #[.int .i64 0, .string ⟨#[]⟩, .int .i64 0, .int .i64 0] 92)
  go_enter Tryd.func40, Tryd.ntmps40; (try simp only [List.append_eq, List.cons_append, List.nil_append])
  go_wp2_with (first | (go_at_call 41; refine (is_any _ _ _ _ _ _ _ h1 _).mono ?_; rintro e w1 ⟨rfl, rfl⟩) | (go_at_call 24; refine (at_any _ _ _ _ _ _ _ h1).mono ?_; rintro e w1 ⟨rfl, rfl⟩))
  exact ⟨rfl, rfl, by ((with_reducible (repeat (first | exact bR _ _ | refine bS ?_ ?_ _ | refine bA ?_ ?_ _ | refine bD ?_ | refine bT ?_ (by assumption) ?_ | refine bO (by assumption) ?_ ?_))) <;> (first | omega | (simp; done) | (simp <;> omega)))⟩
theorem take_ok (w : World) (rb N e c : Nat) (A : Option Addr) (x : WV) (l : List WV) (h : RdAt w rb N A (x :: l) e c) (k : Int) (hk : x.kind = k) : Calls Tryd.prog 40 #[.pointer (some ⟨rb, 0, none⟩), .int .i64 k] w fun ε w' => ε = .returned (vOfW x) ∧ But rb w w' ∧ ∃ A' c', RdAt w' rb N A' l e c' := by
  have h1 := h.alloc (.cells #[.int .i64 0, .string ⟨#[]⟩, .int .i64 0, .int .i64 0] 92)
  have hk' : isK (x :: l) k = true := by simp [isK, hk]
  obtain ⟨hw, he, fz, lt, nle, cap, ws⟩ := h
  obtain ⟨g, o, rfl⟩ := ws.form
  obtain ⟨hg, c0, c1, c2, c3⟩ := ws.head
  simp only [List.length_cons] at hw cap
  have i1 : (0 : Int) < ((l.length + 1 : Nat) : Int) := by omega
  have l1 : g < w.heap.size := by omega
  go_enter Tryd.func40, Tryd.ntmps40; (try simp only [List.append_eq, List.cons_append, List.nil_append])
  go_wp2_with (first | (go_at_call 41; refine (is_any _ _ _ _ _ _ _ h1 _).mono ?_; rintro e w1 ⟨rfl, rfl⟩) | (go_at_call 24; refine (at_any _ _ _ _ _ _ _ h1).mono ?_; rintro e w1 ⟨rfl, rfl⟩))
  · obtain rfl : l = [] := by
      cases l with
      | nil => rfl
      | cons y l => simp only [List.length_cons] at cap; omega
    have hbut := ((((But.refl rb w).set (p := ⟨rb, 0, none⟩) (Value.slice (some ⟨g, o, none⟩) ([] : List WV).length 0) (.inl rfl)).alloc (.cells #[.int .i64 k, .string x.text, .int .i64 x.num, .int .i64 x.at_] 92)).alloc (.cells #[.int .i64 k, .string x.text, .int .i64 x.num, .int .i64 x.at_] 92))
    refine bodyPost_ret (v := .agg #[.int .i64 k, .string x.text, .int .i64 x.num, .int .i64 x.at_]) (by simp only [results, Tryd.results40]; go_simp) rfl ⟨?_, ?_⟩
    · rw [← hk]; rfl
    refine ⟨hbut, some ⟨g, o, none⟩, 0, ?_, ?_, ?_, ?_, nle, Nat.le_refl _, ?_⟩
    · go_simp
    · go_simp; try exact he
    · intro o; go_simp; try exact fz o
    · simp; omega
    · exact fun k y hy => by simp at hy
  · have hbut := ((((But.refl rb w).set (p := ⟨rb, 0, none⟩) (Value.slice (some ⟨g, o + 4, none⟩) l.length (c - 1)) (.inl rfl)).alloc (.cells #[.int .i64 k, .string x.text, .int .i64 x.num, .int .i64 x.at_] 92)).alloc (.cells #[.int .i64 k, .string x.text, .int .i64 x.num, .int .i64 x.at_] 92))
    refine bodyPost_ret (v := .agg #[.int .i64 k, .string x.text, .int .i64 x.num, .int .i64 x.at_]) (by simp only [results, Tryd.results40]; go_simp) rfl ⟨?_, ?_⟩
    · rw [← hk]; rfl
    refine ⟨hbut, some ⟨g, o + 4, none⟩, c - 1, ?_, ?_, ?_, ?_, nle, by omega, ?_⟩
    · go_simp
    · go_simp; try exact he
    · intro o; go_simp; try exact fz o
    · simp; omega
    · exact WvAt.tail (ws.but hbut (by omega) nle)
end Go.Proofs.YteondblmcooklaaDoor
