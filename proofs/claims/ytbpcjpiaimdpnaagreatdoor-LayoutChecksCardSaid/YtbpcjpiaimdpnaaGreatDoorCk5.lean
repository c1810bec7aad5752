/- Merged texts: SrcE SrcF SrcG SrcH SrcI. -/
import Derived.Test.YtbpcjpiaimdpnaaGreatDoorCk4
import Derived.Recover
import Derived.Defers
set_option linter.unusedSimpArgs false
set_option linter.unusedVariables false
namespace Go.Proofs.YtbpcjpiaimdpnaaGreatDoor
open Go Go.RowKit
set_option linter.unusedVariables false
structure C4 (w : World) (b : Nat) (v0 v1 v2 v3 : Value) : Prop where
  c0 : w.cell? ⟨b, 0, none⟩ = some v0
  c1 : w.cell? ⟨b, 1, none⟩ = some v1
  c2 : w.cell? ⟨b, 2, none⟩ = some v2
  c3 : w.cell? ⟨b, 3, none⟩ = some v3
  fz : ∀ o, w.frozen? ⟨b, o, none⟩ = false
  lt : b < w.heap.size
structure C3 (w : World) (b : Nat) (v0 v1 v2 : Value) : Prop where
  c0 : w.cell? ⟨b, 0, none⟩ = some v0
  c1 : w.cell? ⟨b, 1, none⟩ = some v1
  c2 : w.cell? ⟨b, 2, none⟩ = some v2
  fz : ∀ o, w.frozen? ⟨b, o, none⟩ = false
  lt : b < w.heap.size
theorem C4.block {w w' : World} {b : Nat} {v0 v1 v2 v3 : Value} (h : C4 w b v0 v1 v2 v3) (hs : w.heap.size ≤ w'.heap.size) (hb : w'.heap[b]? = w.heap[b]?) : C4 w' b v0 v1 v2 v3 :=
 ⟨(World.cell?_of_block (a := ⟨b, 0, none⟩) hb).trans h.c0, (World.cell?_of_block (a := ⟨b, 1, none⟩) hb).trans h.c1, (World.cell?_of_block (a := ⟨b, 2, none⟩) hb).trans h.c2, (World.cell?_of_block (a := ⟨b, 3, none⟩) hb).trans h.c3, fun o => (World.frozen?_of_block (a := ⟨b, o, none⟩) hb).trans (h.fz o), Nat.lt_of_lt_of_le h.lt hs⟩
theorem C3.block {w w' : World} {b : Nat} {v0 v1 v2 : Value} (h : C3 w b v0 v1 v2) (hs : w.heap.size ≤ w'.heap.size) (hb : w'.heap[b]? = w.heap[b]?) : C3 w' b v0 v1 v2 :=
 ⟨(World.cell?_of_block (a := ⟨b, 0, none⟩) hb).trans h.c0, (World.cell?_of_block (a := ⟨b, 1, none⟩) hb).trans h.c1, (World.cell?_of_block (a := ⟨b, 2, none⟩) hb).trans h.c2, fun o => (World.frozen?_of_block (a := ⟨b, o, none⟩) hb).trans (h.fz o), Nat.lt_of_lt_of_le h.lt hs⟩
theorem C4.below {w w' : World} {b B : Nat} {v0 v1 v2 v3 : Value} (h : C4 w b v0 v1 v2 v3) (hb : Below B w w') (hB : b < B) : C4 w' b v0 v1 v2 v3 := h.block hb.size (hb.block b hB)
theorem C3.below {w w' : World} {b B : Nat} {v0 v1 v2 : Value} (h : C3 w b v0 v1 v2) (hb : Below B w w') (hB : b < B) : C3 w' b v0 v1 v2 := h.block hb.size (hb.block b hB)
theorem C4.but {w w' : World} {b rb : Nat} {v0 v1 v2 v3 : Value} (h : C4 w b v0 v1 v2 v3) (hb : But rb w w') (hn : b ≠ rb) : C4 w' b v0 v1 v2 v3 := h.block hb.size (hb.block b h.lt hn)
theorem C3.but {w w' : World} {b rb : Nat} {v0 v1 v2 : Value} (h : C3 w b v0 v1 v2) (hb : But rb w w') (hn : b ≠ rb) : C3 w' b v0 v1 v2 := h.block hb.size (hb.block b h.lt hn)
theorem C4.alloc {w : World} {b : Nat} {v0 v1 v2 v3 : Value} (h : C4 w b v0 v1 v2 v3) (o : Obj) : C4 (w.alloc o) b v0 v1 v2 v3 := h.block (by simp) (heap_alloc_old w o h.lt)
theorem C3.alloc {w : World} {b : Nat} {v0 v1 v2 : Value} (h : C3 w b v0 v1 v2) (o : Obj) : C3 (w.alloc o) b v0 v1 v2 := h.block (by simp) (heap_alloc_old w o h.lt)
theorem C4.new (w : World) (v0 v1 v2 v3 : Value) (e : TypeId) : C4 (w.alloc (.cells #[v0, v1, v2, v3] e)) w.heap.size v0 v1 v2 v3 := ⟨by go_simp, by go_simp, by go_simp, by go_simp, fun o => by go_simp, by simp⟩
theorem C3.new (w : World) (v0 v1 v2 : Value) (e : TypeId) : C3 (w.alloc (.cells #[v0, v1, v2] e)) w.heap.size v0 v1 v2 := ⟨by go_simp, by go_simp, by go_simp, fun o => by go_simp, by simp⟩
def ItemOut (rb N e : Nat) (R : PR IV) (w : World) (ε : Ending) (w' : World) : Prop := But rb w w' ∧ match R with
  | .err a b => ε = .panicked (flt a b)
  | .ok x r => ∃ B d A c, ε = .returned (vOfX x B d) ∧ KsOwn w' w.heap.size 120 B d x.keys ∧ RdAt w' rb N A r e c
def mkI (word name : ByteArray) (a : Nat) : PR (List KV) → PR IV
  | .err c b => .err c b
  | .ok ks l => .ok ⟨word, name, ks, a⟩ l
def numK (e : Nat) (word : ByteArray) (f : Nat) (acc : List KV) (key : ByteArray) (a : Nat) : PR (List Int) → PR (List KV)
  | .err c b => .err c b
  | .ok vs l => keysF e word f (acc ++ [⟨key, vs, a⟩]) l
theorem restF_eq (e : Nat) (word name : ByteArray) (a : Nat) (l : List WV) : restF e word name a l = mkI word name a (keysF e word (l.length + 1) [] l) := by
 unfold restF mkI
 cases keysF e word (l.length + 1) [] l <;> rfl
theorem keysF_key {e f : Nat} {word : ByteArray} {acc : List KV} {x : WV} {l : List WV} (h3 : x.kind = 1) (ha : ¬ arR word x.text < 0) (hh : hasK acc x.text = false) : keysF e word (f + 1) acc (x :: l) = numK e word f acc x.text x.at_ (numsF e (arR word x.text).toNat [] l) := by
 simp only [keysF]
 rw [if_neg (by omega), if_neg (by omega), if_neg ha, if_neg (by simp [hh])]
 unfold numK
 cases numsF e (arR word x.text).toNat [] l <;> rfl
theorem isK_cons {l : List WV} {k : Int} (h : isK l k = true) : ∃ x l', l = x :: l' ∧ x.kind = k := by
 cases l with
 | nil => cases h
 | cons x l => exact ⟨x, l, rfl, by simpa [isK] using h⟩
theorem isK_not {x : WV} {l : List WV} {k : Int} (h : isK (x :: l) k = false) : ¬ x.kind = k := by simpa [isK] using h
theorem ownr_low {w : World} {base size n : Nat} {e : TypeId} {v : Value} {xs : List Value} (h : w.ownsRow base e size v n xs) {p : Addr} (hp : p.block < base) (u : Value) : (w.setCell p u).ownsRow base e size v n xs :=
 ownsRow_block h fun b hv => Below.heap_setCell _ _ _ _ (by have := (h.lt b hv).1; omega)
theorem OwnI.low {w : World} {base : Nat} {A : Option Addr} {c : Nat} {l : List Int} (h : OwnI w base A c l) {p : Addr} (hp : p.block < base) (u : Value) : OwnI (w.setCell p u) base A c l := ownr_low h hp u
theorem KsOwn.low {w : World} {base : Nat} {tK : TypeId} {A : Option Addr} {c : Nat} {l : List KV} (h : KsOwn w base tK A c l) {p : Addr} (hp : p.block < base) (u : Value) : KsOwn (w.setCell p u) base tK A c l := by
 obtain ⟨ps, h1, h2, h3⟩ := h
 exact ⟨ps, h1, ownr_low h2 hp u, fun p' hp' => (h3 p' hp').low hp u⟩
theorem C3.grown {w w' : World} {b base : Nat} {v0 v1 v2 : Value} {row : Option Nat} (h : C3 w b v0 v1 v2) (hg : w.grownBy w' row) (hr : ∀ k, row = some k → base ≤ k) (hb : b < base) : C3 w' b v0 v1 v2 := h.block hg.size (hg.block b h.lt (fun e => by have := hr b e.symm; omega))
theorem C4.grown {w w' : World} {b base : Nat} {v0 v1 v2 v3 : Value} {row : Option Nat} (h : C4 w b v0 v1 v2 v3) (hg : w.grownBy w' row) (hr : ∀ k, row = some k → base ≤ k) (hb : b < base) : C4 w' b v0 v1 v2 v3 := h.block hg.size (hg.block b h.lt (fun e => by have := hr b e.symm; omega))
theorem C4.low {w : World} {b : Nat} {v0 v1 v2 v3 : Value} (h : C4 w b v0 v1 v2 v3) {p : Addr} (hp : p.block ≠ b) (u : Value) : C4 (w.setCell p u) b v0 v1 v2 v3 := h.block (by simp) (Below.heap_setCell _ _ _ _ (by omega))
theorem C3.set1 {w : World} {b : Nat} {v0 v1 v2 : Value} (h : C3 w b v0 v1 v2) (u : Value) : C3 (w.setCell ⟨b, 1, none⟩ u) b v0 u v2 := by
 obtain ⟨c0, c1, c2, fz, lt⟩ := h
 exact ⟨by go_simp, by go_simp, by go_simp, fun o => by go_simp, by simpa using lt⟩
theorem C4.set1 {w : World} {b : Nat} {v0 v1 v2 v3 : Value} (h : C4 w b v0 v1 v2 v3) (u : Value) : C4 (w.setCell ⟨b, 1, none⟩ u) b v0 u v2 v3 := by
 obtain ⟨c0, c1, c2, c3, fz, lt⟩ := h
 exact ⟨by go_simp, by go_simp, by go_simp, by go_simp, fun o => by go_simp, by simpa using lt⟩
theorem C4.set2 {w : World} {b : Nat} {v0 v1 v2 v3 : Value} (h : C4 w b v0 v1 v2 v3) (u : Value) : C4 (w.setCell ⟨b, 2, none⟩ u) b v0 v1 u v3 := by
 obtain ⟨c0, c1, c2, c3, fz, lt⟩ := h
 exact ⟨by go_simp, by go_simp, by go_simp, by go_simp, fun o => by go_simp, by simpa using lt⟩
theorem RdAt.drew {w : World} {rb N : Nat} {A : Option Addr} {l : List WV} {e c : Nat} (h : RdAt w rb N A l e c) : RdAt w.drew rb N A l e c := ⟨h.hw, h.he, h.fz, h.lt, h.nle, h.cap, h.ws⟩
theorem But.of_drew {rb : Nat} {w w' : World} (h : But rb w.drew w') : But rb w w' := ⟨h.os, h.tape, h.output, h.size, h.block⟩
theorem below_drew {B : Nat} {w w' : World} (h : Below B w.drew w') : Below B w w' := ⟨h.os, h.tape, h.output, h.size, h.block⟩
theorem Tabs.set {w : World} (h : Tabs w) {p : Addr} (hp : 3 ≤ p.block) (u : Value) : Tabs (w.setCell p u) := h.but ((But.refl p.block w).set u (.inl rfl)) hp
theorem Tabs.grown {w w' : World} {row : Option Nat} (h : Tabs w) (hg : w.grownBy w' row) (hr : ∀ k, row = some k → 3 ≤ k) : Tabs w' := by
 have := h.three
 exact ⟨tab_block gSp h.sp (hg.block _ (by omega) (fun e => by have := hr _ e.symm; omega)), tab_block gPw h.pw (hg.block _ (by omega) (fun e => by have := hr _ e.symm; omega))⟩
theorem KsOwn.more {w : World} {base : Nat} {tK : TypeId} {A : Option Addr} {c : Nat} {l : List KV} (hne : tK ≠ 3) (h : KsOwn w base tK A c l) : ∃ xs, w.ownsRow base tK 3 (.slice A l.length c) l.length xs ∧
  ∀ (x : KV) (B : Option Addr) (d : Nat) (v' : Value) (w' : World), OwnI w base B d x.vals → w'.ownsRow base tK 3 v' (l.length + 1) (xs ++ cellsOfK x B d) → w.grownBy w' (Value.ownBlock (.slice A l.length c)) → ∃ A' c', v' = .slice A' (l ++ [x]).length c' ∧ KsOwn w' base tK A' c' (l ++ [x]) := by
 obtain ⟨ps, rfl, h2, h3⟩ := h
 have e : (ps.map (·.1)).length = ps.length := List.length_map _
 rw [e] at h2 ⊢
 exact ⟨_, h2, fun x B d v' w' hx hw hg => KsOwn.snoc hne h2 h3 hx hw hg⟩
theorem XsOwn.more {w : World} {base : Nat} {tX tK : TypeId} {A : Option Addr} {c : Nat} {l : List IV} (n1 : tK ≠ tX) (n2 : 3 ≠ tX) (h : XsOwn w base tX tK A c l) : ∃ xs, w.ownsRow base tX 4 (.slice A l.length c) l.length xs ∧
  ∀ (x : IV) (B : Option Addr) (d : Nat) (v' : Value) (w' : World), KsOwn w base tK B d x.keys → w'.ownsRow base tX 4 v' (l.length + 1) (xs ++ cellsOfX x B d) → w.grownBy w' (Value.ownBlock (.slice A l.length c)) → ∃ A' c', v' = .slice A' (l ++ [x]).length c' ∧ XsOwn w' base tX tK A' c' (l ++ [x]) := by
 obtain ⟨ps, rfl, h2, h3⟩ := h
 have e : (ps.map (·.1)).length = ps.length := List.length_map _
 rw [e] at h2 ⊢
 exact ⟨_, h2, fun x B d v' w' hx hw hg => XsOwn.snoc n1 n2 h2 h3 hx hw hg⟩
theorem cells1 {w : World} {g : Nat} {x : Value} (h : w.cell? ⟨g, 0, none⟩ = some x) : ∀ j u, [x][j]? = some u → w.cell? ⟨g, j, none⟩ = some u := fun j u hj => by
 rcases j with _ | j
 · simp only [List.getElem?_cons_zero, Option.some.injEq] at hj
   subst hj; exact h
 · simp at hj
theorem C3.cells {w : World} {b : Nat} {v0 v1 v2 : Value} (h : C3 w b v0 v1 v2) : ∀ j u, [v0, v1, v2][j]? = some u → w.cell? ⟨b, j, none⟩ = some u := fun j u hj => by
 rcases j with _ | _ | _ | j
 · simp only [List.getElem?_cons_zero, Option.some.injEq] at hj
   subst hj; exact h.c0
 · simp only [List.getElem?_cons_succ, List.getElem?_cons_zero, Option.some.injEq] at hj
   subst hj; exact h.c1
 · simp only [List.getElem?_cons_succ, List.getElem?_cons_zero, Option.some.injEq] at hj
   subst hj; exact h.c2
 · simp at hj
theorem C4.cells {w : World} {b : Nat} {v0 v1 v2 v3 : Value} (h : C4 w b v0 v1 v2 v3) : ∀ j u, [v0, v1, v2, v3][j]? = some u → w.cell? ⟨b, j, none⟩ = some u := fun j u hj => by
 rcases j with _ | _ | _ | _ | j
 · simp only [List.getElem?_cons_zero, Option.some.injEq] at hj
   subst hj; exact h.c0
 · simp only [List.getElem?_cons_succ, List.getElem?_cons_zero, Option.some.injEq] at hj
   subst hj; exact h.c1
 · simp only [List.getElem?_cons_succ, List.getElem?_cons_zero, Option.some.injEq] at hj
   subst hj; exact h.c2
 · simp only [List.getElem?_cons_succ, List.getElem?_cons_zero, Option.some.injEq] at hj
   subst hj; exact h.c3
 · simp at hj
theorem field_word2 (w : World) (a b c d : Value) : (Instr.field 239 (.agg #[a, b, c, d]) 2).run Tryz.prog w = .ok c w := by
 simp [Instr.field, part, isAgg, asAgg, run_underlying Tryz.underlying239, run_underlying Tryz.underlying3, go_sem]
theorem field_word1 (w : World) (a b c d : Value) : (Instr.field 239 (.agg #[a, b, c, d]) 1).run Tryz.prog w = .ok b w := by
 simp [Instr.field, part, isAgg, asAgg, run_underlying Tryz.underlying239, run_underlying Tryz.underlying9, go_sem]
attribute [go_sem] field_word1 field_word2
theorem XsOwn.low {w : World} {base : Nat} {tX tK : TypeId} {A : Option Addr} {c : Nat} {l : List IV} (h : XsOwn w base tX tK A c l) {p : Addr} (hp : p.block < base) (u : Value) : XsOwn (w.setCell p u) base tX tK A c l := by
 obtain ⟨ps, h1, h2, h3⟩ := h
 exact ⟨ps, h1, ownr_low h2 hp u, fun p' hp' => (h3 p' hp').low hp u⟩
theorem XsOwn.weaker {w : World} {base base' : Nat} {tX tK : TypeId} {A : Option Addr} {c : Nat} {l : List IV} (h : XsOwn w base tX tK A c l) (hb : base' ≤ base) : XsOwn w base' tX tK A c l := by
 obtain ⟨ps, h1, h2, h3⟩ := h
 exact ⟨ps, h1, ownr_weaker h2 hb, fun p hp => (h3 p hp).weaker hb⟩
theorem RdAt.new {W : World} {N : Nat} {A : Option Addr} {l : List WV} {e c b : Nat} {t : TypeId} (hw : WvAt W N A l) (hN : N ≤ W.heap.size) (hc : l.length ≤ c) (hb : b = W.heap.size) : RdAt (W.alloc (.cells #[.slice A l.length c, .int .i64 e] t)) b N A l e c := by
 subst hb
 exact ⟨by go_simp, by go_simp, fun o => by go_simp, by simp, hN, hc, hw.below ((Below.refl W.heap.size W).alloc (Nat.le_refl _) _) hN⟩
set_option maxHeartbeats 4000000 in
theorem item_any (w : World) (rb N e c : Nat) (A : Option Addr) (l : List WV) (h : RdAt w rb N A l e c) (ht : Tabs w) (h3 : 3 ≤ rb) (hl : l.length ≤ 20000) :
  Calls Tryz.prog 93 #[.pointer (some ⟨rb, 0, none⟩)] w (ItemOut rb N e (itemF e l) w) := by
 have hrb := h.lt
 have h1 := h.alloc (.cells #[.string ⟨#[]⟩, .string ⟨#[]⟩, .slice none 0 0, .int .i64 0] 97)
 have hb0 := (But.refl rb w).alloc (.cells #[.string ⟨#[]⟩, .string ⟨#[]⟩, .slice none 0 0, .int .i64 0] 97)
 have hX0 := C4.new w (.string ⟨#[]⟩) (.string ⟨#[]⟩) (.slice none 0 0) (.int .i64 0) 97
 have HT := hQ0 (ht.alloc (.cells #[.string ⟨#[]⟩, .string ⟨#[]⟩, .slice none 0 0, .int .i64 0] 97))
 clear ht
 by_cases k1 : isK l 1 = true
 · obtain ⟨⟨kd, tx, nm, pl⟩, l1, rfl, hx⟩ := isK_cons k1
   simp only at hx
   subst hx
   cases hw : isWord tx
   · have hR : itemF e (⟨1, tx, nm, pl⟩ :: l1) = .err 4 pl := by simp [itemF, hw]
     have b1 : ((txtOf tx).toList == []) = true := by rw [txt_word, hw]; rfl
     rw [hR]
     go_enter Tryz.func93, Tryz.ntmps93; (try simp only [List.append_eq, List.cons_append, List.nil_append])
     go_wp2_with (first | (go_at_call 154; refine (take_ok _ _ _ _ _ _ _ _ h1 _ rfl).mono ?_; rintro e w1 ⟨rfl, hb1, A1, c1, h2⟩; simp only [vOfW]) | (go_at_call 155; refine (keys_any _ _).mono ?_; rintro e w2 ⟨rfl, hb2⟩; obtain ⟨d0, d1, d2, d3, dz, dl⟩ := (C4.new w1 (.int .i64 1) (.string tx) (.int .i64 nm) (.int .i64 pl) 239).below hb2 (by simp)))
     exact ⟨rfl, ((hb0.trans hb1).alloc _).below hb2 (by have := hb1.size; simp at this ⊢; omega), rfl⟩
   · have b1 : ((txtOf tx).toList == []) = false := by rw [txt_word, hw]; rfl
     by_cases htab : tx = tTable
     · have b2 : (tx.toList == [116, 97, 98, 108, 101]) = true := txt_eqL htab
       have hR : itemF e (⟨1, tx, nm, pl⟩ :: l1) = mkI tx ⟨#[]⟩ pl (keysF e tx (l1.length + 1) [] l1) := by simp only [itemF]; rw [if_neg (by simp), if_neg (by simp [hw]), if_pos htab, restF_eq]
       obtain ⟨R, hRe⟩ : ∃ R, R = mkI tx ⟨#[]⟩ pl (keysF e tx (l1.length + 1) [] l1) := ⟨_, rfl⟩
       have HR := hQ0 hRe
       simp only [List.length_cons] at hl
       rw [hR, ← hRe]
       clear hR hRe htab
       go_enter Tryz.func93, Tryz.ntmps93; (try simp only [List.append_eq, List.cons_append, List.nil_append])
       go_wp2_with (first | (go_at_call 154; refine (take_ok _ _ _ _ _ _ _ _ h1 _ rfl).mono ?_; rintro e w1 ⟨rfl, hb1, A1, c1, h2⟩; simp only [vOfW]) | (go_at_call 155; refine (keys_any _ _).mono ?_; rintro e w2 ⟨rfl, hb2⟩; obtain ⟨d0, d1, d2, d3, dz, dl⟩ := (C4.new w1 (.int .i64 1) (.string tx) (.int .i64 nm) (.int .i64 pl) 239).below hb2 (by simp)))
       have hz1 := hb1.size
       simp at hz1
       have hz2 := hb2.size
       simp at hz2
       obtain ⟨XB, hXe⟩ : ∃ XB, XB = w2.heap.size := ⟨_, rfl⟩
       have hX0' := (((hX0.but hb1 (by omega)).alloc (.cells #[.int .i64 1, .string tx, .int .i64 nm, .int .i64 pl] 239)).below hb2 (by simp; omega)).alloc (.cells #[.string tx, .string ⟨#[]⟩, .slice none 0 0, .int .i64 pl] 97)
       have hXB := C4.new w2 (.string tx) (.string ⟨#[]⟩) (.slice none 0 0) (.int .i64 pl) 97
       have hrd := ((h2.alloc (.cells #[.int .i64 1, .string tx, .int .i64 nm, .int .i64 pl] 239)).below hb2 (Nat.le_refl _)).alloc (.cells #[.string tx, .string ⟨#[]⟩, .slice none 0 0, .int .i64 pl] 97)
       have hbut := (((hb0.trans hb1).alloc (.cells #[.int .i64 1, .string tx, .int .i64 nm, .int .i64 pl] 239)).below hb2 (by simp; omega)).alloc (.cells #[.string tx, .string ⟨#[]⟩, .slice none 0 0, .int .i64 pl] 97)
       have HT0 := hQ0 ((((HT.out.but hb1 h3).alloc (.cells #[.int .i64 1, .string tx, .int .i64 nm, .int .i64 pl] 239)).below hb2 (by simp; omega)).alloc (.cells #[.string tx, .string ⟨#[]⟩, .slice none 0 0, .int .i64 pl] 97))
       rw [← hXe] at hXB ⊢
       have hXw : w.heap.size + 1 ≤ XB := by omega
       clear hXe h h1 hb0 hX0 HT hb1 hb2 h2 b1 b2 d0 d1 d2 d3 dz dl
       go_loopg [] (l1.length + 1) (fun gk wr => ∃ (l : List WV) (A : Option Addr) (c : Nat) (ks : List KV) (B : Option Addr) (d f : Nat), l.length < gk ∧ l.length < f ∧ ks.length + l.length ≤ 20000 ∧ Hid (∀ k ∈ ks, k.vals.length ≤ 2) ∧ But rb w wr ∧ C4 wr w.heap.size (.string ⟨#[]⟩) (.string ⟨#[]⟩) (.slice none 0 0) (.int .i64 0) ∧ C4 wr XB (.string tx) (.string ⟨#[]⟩) (.slice B ks.length d) (.int .i64 pl) ∧ Hid (KsOwn wr (XB + 1) 120 B d ks) ∧ RdAt wr rb N A l e c ∧ Hid (R = mkI tx ⟨#[]⟩ pl (keysF e tx f ks l)) ∧ Hid (Tabs wr))
       case atStart => exact ⟨l1, A1, c1, [], none, 0, l1.length + 1, by omega, by omega, by simp; omega, hQ0 (by simp), hbut, hX0', hXB, hQ0 (KsOwn.nil _ _ _), hrd, HR, HT0⟩
       case round =>
        obtain ⟨l, A, c, ks, B, d, f, hlk, hlf, hkl, HV, hbr, x4, b4, HO, hr, HJ, HTr⟩ := hrel
        have hr0 := hr.lt
        have hne : XB ≠ rb := by omega
        have hne0 : w.heap.size ≠ rb := by omega
        obtain ⟨f, rfl⟩ : ∃ g, f = g + 1 := ⟨f - 1, by omega⟩
        have hlK := b4.lt
        obtain ⟨y0, y1, y2, y3, yz, yl⟩ := b4
        by_cases k3 : isK l 3 = true
        · obtain ⟨⟨kd, t3, n3, p3⟩, lr, rfl, hx3⟩ := isK_cons k3
          simp only at hx3
          subst hx3
          obtain rfl : R = .ok ⟨tx, ⟨#[]⟩, ks, pl⟩ lr := HJ.out
          go_wp2_with (first | (go_at_call 156; refine (is_any _ _ _ _ _ _ _ hr _).mono ?_; rintro e w3 ⟨rfl, rfl⟩; rw [k3]) | (go_at_call 154; refine (take_ok _ _ _ _ _ _ _ _ hr _ rfl).mono ?_; rintro e w3 ⟨rfl, hb3, A3, c3, h3'⟩; obtain ⟨u0, u1, u2, u3, uz, ul⟩ := x4.but hb3 hne0; obtain ⟨z0, z1, z2, z3, zz, zl⟩ := (C4.mk y0 y1 y2 y3 yz yl).but hb3 hne))

          refine bodyPost_ret (v := .agg #[.string tx, .string ⟨#[]⟩, .slice B ks.length d, .int .i64 pl]) (by simp only [results, Tryz.results93]; go_simp) rfl ⟨?_, ?_⟩
          · exact ((((hbr.trans hb3).set _ (.inr (Nat.le_refl _))).set _ (.inr (Nat.le_refl _))).set _ (.inr (Nat.le_refl _))).set _ (.inr (Nat.le_refl _))
          · refine ⟨B, d, A3, c3, rfl, ?_, ?_⟩
            · exact ((((HO.out.but hb3 (by omega)).low (p := ⟨w.heap.size, 0, none⟩) (by show w.heap.size < _; omega) _).low (p := ⟨w.heap.size, 1, none⟩) (by show w.heap.size < _; omega) _).low (p := ⟨w.heap.size, 2, none⟩) (by show w.heap.size < _; omega) _).low (p := ⟨w.heap.size, 3, none⟩) (by show w.heap.size < _; omega) _ |>.weaker (by omega)
            · exact (((h3'.set _ (by show rb < w.heap.size; omega)).set _ (by show rb < w.heap.size; omega)).set _ (by show rb < w.heap.size; omega)).set _ (by show rb < w.heap.size; omega)
        · have k3' : isK l 3 = false := by simpa using k3
          by_cases k1 : isK l 1 = true
          · obtain ⟨⟨kd, kt, kn, kp⟩, lr, rfl, hx1⟩ := isK_cons k1
            simp only at hx1
            subst hx1
            by_cases ha : arR tx kt < 0
            · obtain rfl : R = .err 4 kp := by rw [HJ.out]; simp only [keysF]; rw [if_neg (by simp), if_neg (by simp), if_pos ha]; rfl
              go_wp2_with (first | (go_at_call 156; refine (is_any _ _ _ _ _ _ _ hr _).mono ?_; rintro e w3 ⟨rfl, rfl⟩; rw [k3']) | (go_at_call 154; refine (take_ok _ _ _ _ _ _ _ _ hr _ rfl).mono ?_; rintro e w3 ⟨rfl, hb3, A3, c3, h3'⟩; simp only [vOfW]; obtain ⟨z0, z1, z2, z3, zz, zl⟩ := (C4.mk y0 y1 y2 y3 yz yl).but hb3 hne) | (go_at_call 157; refine (arity_any _ _ _ ((HTr.out.but hb3 h3).alloc _)).mono ?_; rintro e w4 ⟨rfl, hb4⟩; obtain ⟨q0, q1, q2, q3, qz, ql⟩ := (C4.new w3 (.int .i64 1) (.string kt) (.int .i64 kn) (.int .i64 kp) 239).below hb4 (by simp)))
              exact ⟨rfl, ((hbr.trans hb3).alloc _).below hb4 (by have := hb3.size; have := hbr.size; simp; omega), rfl⟩
            · have hge : 0 ≤ arR tx kt := by omega
              have hle := (arR_bd tx kt).2
              cases hG : getR ks kt with
              | some vs =>
               have hh : hasK ks kt = true := by rw [hasK_get, hG]; rfl
               obtain rfl : R = .err 7 kp := by rw [HJ.out]; simp only [keysF]; rw [if_neg (by simp), if_neg (by simp), if_neg ha, if_pos hh]; rfl
               go_wp2_with (first | (go_at_call 156; refine (is_any _ _ _ _ _ _ _ hr _).mono ?_; rintro e w3 ⟨rfl, rfl⟩; rw [k3']) | (go_at_call 154; refine (take_ok _ _ _ _ _ _ _ _ hr _ rfl).mono ?_; rintro e w3 ⟨rfl, hb3, A3, c3, h3'⟩; simp only [vOfW]; obtain ⟨z0, z1, z2, z3, zz, zl⟩ := (C4.mk y0 y1 y2 y3 yz yl).but hb3 hne) | (go_at_call 157; refine (arity_any _ _ _ ((HTr.out.but hb3 h3).alloc _)).mono ?_; rintro e w4 ⟨rfl, hb4⟩; obtain ⟨q0, q1, q2, q3, qz, ql⟩ := (C4.new w3 (.int .i64 1) (.string kt) (.int .i64 kn) (.int .i64 kp) 239).below hb4 (by simp); obtain ⟨m0, m1, m2, m3, mz, ml⟩ := ((C4.mk z0 z1 z2 z3 zz zl).alloc _).below hb4 (by simp; omega)) | (go_at_call 103; refine (get_any ⟨tx, ⟨#[]⟩, ks, pl⟩ B d kt _ (((HO.out.but hb3 (by omega)).at.below ((Below.refl w3.heap.size w3).alloc (Nat.le_refl _) _) (Nat.le_refl _)).below hb4 (Nat.le_refl _)) (by simp at hkl; show ks.length ≤ _; omega) (fun k hk => by have := HV.out k hk; omega)).mono ?_; rintro e w5 ⟨hb5, hg⟩; rw [hG] at hg; obtain ⟨A5, c5, rfl, _⟩ := hg; obtain ⟨r0, r1, r2, r3, rz, rl⟩ := (C4.mk q0 q1 q2 q3 qz ql).below hb5 (by omega)))
               exact ⟨rfl, (((hbr.trans hb3).alloc _).below hb4 (by have := hb3.size; have := hbr.size; simp; omega)).below hb5 (by have := hb3.size; have := hbr.size; have := hb4.size; simp at *; omega), rfl⟩
              | none =>
               have hh : hasK ks kt = false := by rw [hasK_get, hG]; rfl
               obtain ⟨n, hn⟩ : ∃ n : Nat, arR tx kt = n := ⟨(arR tx kt).toNat, by omega⟩
               have HJ2 : Hid (R = mkI tx ⟨#[]⟩ pl (numK e tx f ks kt kp (numsF e (n - 0) [] lr))) := hQ0 (by rw [HJ.out, keysF_key rfl ha hh, hn]; rfl)
               rw [hn] at ha hge hle
               have HN := hQ0 hn
               clear hn
               go_wp2_with (first | (go_at_call 156; refine (is_any _ _ _ _ _ _ _ hr _).mono ?_; rintro e w3 ⟨rfl, rfl⟩; rw [k3']) | (go_at_call 154; refine (take_ok _ _ _ _ _ _ _ _ hr _ rfl).mono ?_; rintro e w3 ⟨rfl, hb3, A3, c3, h3'⟩; simp only [vOfW]; obtain ⟨z0, z1, z2, z3, zz, zl⟩ := (C4.mk y0 y1 y2 y3 yz yl).but hb3 hne) | (go_at_call 157; refine (arity_any _ _ _ ((HTr.out.but hb3 h3).alloc _)).mono ?_; rintro e w4 ⟨rfl, hb4⟩; rw [HN.out]; obtain ⟨q0, q1, q2, q3, qz, ql⟩ := (C4.new w3 (.int .i64 1) (.string kt) (.int .i64 kn) (.int .i64 kp) 239).below hb4 (by simp); obtain ⟨m0, m1, m2, m3, mz, ml⟩ := ((C4.mk z0 z1 z2 z3 zz zl).alloc _).below hb4 (by simp; omega)) | (go_at_call 103; refine (get_any ⟨tx, ⟨#[]⟩, ks, pl⟩ B d kt _ (((HO.out.but hb3 (by omega)).at.below ((Below.refl w3.heap.size w3).alloc (Nat.le_refl _) _) (Nat.le_refl _)).below hb4 (Nat.le_refl _)) (by simp at hkl; show ks.length ≤ _; omega) (fun k hk => by have := HV.out k hk; omega)).mono ?_; rintro e w5 ⟨hb5, hg⟩; rw [hG] at hg; obtain rfl := hg; obtain ⟨r0, r1, r2, r3, rz, rl⟩ := (C4.mk q0 q1 q2 q3 qz ql).below hb5 (by omega)))
               have hz3 := hb3.size
               have hz4 := hb4.size
               have hz5 := hb5.size
               simp at hz4
               simp only [List.length_cons] at hkl hlk hlf
               obtain ⟨KB, hKe⟩ : ∃ KB, KB = w5.heap.size := ⟨_, rfl⟩
               have hbk : But rb wr w5 := ((hb3.alloc (.cells #[.int .i64 1, .string kt, .int .i64 kn, .int .i64 kp] 239)).below hb4 (by simp; omega)).below hb5 (by omega)
               have HO5 := hQ0 (HO.out.but hbk (by omega))
               have x5 := x4.but hbk hne0
               have b5 := (C4.mk y0 y1 y2 y3 yz yl).but hbk hne
               have HT5 := hQ0 (HTr.out.but hbk h3)
               have hr5 := (((h3'.alloc (.cells #[.int .i64 1, .string kt, .int .i64 kn, .int .i64 kp] 239)).below hb4 (Nat.le_refl _)).below hb5 (Nat.le_refl _)).alloc (.cells #[.string kt, .slice none 0 0, .int .i64 kp] 120)
               have k5 := C3.new w5 (.string kt) (.slice none 0 0) (.int .i64 kp) 120
               have hbw5 := hbr.trans hbk
               have hbi0 := (But.refl rb w5).alloc (.cells #[.string kt, .slice none 0 0, .int .i64 kp] 120)
               rw [← hKe] at k5 ⊢
               have hKx : XB < KB := by omega
               have HKe := hQ0 hKe
               clear hKe hb3 hb4 hb5 hbk HO x4 HTr h3' hbr hr y0 y1 y2 y3 yz yl z0 z1 z2 z3 zz zl q0 q1 q2 q3 qz ql m0 m1 m2 m3 mz ml r0 r1 r2 r3 rz rl HJ k1 k3 k3' hG hh hz3 hz4 hz5
               go_loopg [66] (n + 1) (fun gk t wi => ∃ (l : List WV) (A : Option Addr) (c : Nat) (vs : List Int) (V : Option Addr) (q : Nat), vs.length ≤ n ∧ n - vs.length < gk ∧ t = .int .i64 vs.length ∧ l.length ≤ lr.length ∧ But rb w5 wi ∧ RdAt wi rb N A l e c ∧ C3 wi KB (.string kt) (.slice V vs.length q) (.int .i64 kp) ∧ Hid (OwnI wi (KB + 1) V q vs) ∧ Hid (R = mkI tx ⟨#[]⟩ pl (numK e tx f ks kt kp (numsF e (n - vs.length) vs l))))
               case atStart => exact ⟨lr, A3, c3, [], none, 0, by simp, by simp, rfl, Nat.le_refl _, hbi0, hr5, k5, hQ0 (OwnI.nil _ _), HJ2⟩
               case round =>
                obtain ⟨l, A, c, vs, V, q, hi, hik, rfl, hll, hbi, hri, k3i, HVs, HJ3⟩ := hrel
                have hri0 := hri.lt
                by_cases hin : vs.length < n
                · obtain ⟨m, hm⟩ : ∃ m, n - vs.length = m + 1 := ⟨n - vs.length - 1, by omega⟩
                  rw [hm] at HJ3
                  have i1 : (vs.length : Int) < (n : Int) := by omega
                  by_cases k2 : isK l 2 = true
                  · obtain ⟨⟨kd, vt, vn, vp⟩, l', rfl, hx2⟩ := isK_cons k2
                    simp only at hx2
                    subst hx2
                    have HJ4 : Hid (R = mkI tx ⟨#[]⟩ pl (numK e tx f ks kt kp (numsF e m (vs ++ [vn]) l'))) := hQ0 (by rw [HJ3.out]; rfl)
                    go_wp2_with fail
                    have hS0 : C3 wr.drew KB (.string kt) (.slice V vs.length q) (.int .i64 kp) := k3i.block (Nat.le_refl _) rfl
                    refine wp_region_Z (fun W => C3 W KB (.string kt) (.slice V vs.length q) (.int .i64 kp)) 6 [6, 7, 8] (by kernel_rfl) (by kernel_rfl) ?_
                    refine wpZ_step (i := 0) rfl (by kernel_rfl) rfl (.pointer (some ⟨KB, 1, none⟩)) (fun _ _ _ h => h) (by assumption) (fun W hW => by obtain ⟨s0, s1, s2, sz, sl⟩ := hW; go_simp) (fun K hK => ?_); go_simp; apply hK; clear hK K
                    refine wpZ_step (i := 1) rfl (by kernel_rfl) rfl (.slice V vs.length q) (fun _ _ _ h => h) (by assumption) (fun W hW => by obtain ⟨s0, s1, s2, sz, sl⟩ := hW; go_simp) (fun K hK => ?_); go_simp; apply hK; clear hK K
                    refine wpZ_step (i := 2) rfl (by kernel_rfl) rfl (.pointer (some ⟨rb, 0, none⟩)) (fun _ _ _ h => h) (by assumption) (fun W hW => by obtain ⟨s0, s1, s2, sz, sl⟩ := hW; go_simp) (fun K hK => ?_); go_simp; apply hK; clear hK K
                    refine wpZ_one (i := 3) rfl (by kernel_rfl) rfl (fun K hK => ?_)
                    go_simp
                    (go_at_call 154; refine (take_ok _ _ _ _ _ _ _ _ hri.drew _ rfl).mono ?_; rintro e w6 ⟨rfl, hb6, A6, c6, h6⟩; simp only [vOfW])
                    replace hb6 := hb6.of_drew
                    have k6 := k3i.but hb6 (by omega)
                    refine ⟨k6, hK _ _ ?_⟩
                    clear hK K hS0
                    refine wpZ_step (i := 4) rfl (by kernel_rfl) rfl (.int .i64 vn) (fun _ _ _ h => h) (by assumption) (fun W hW => by obtain ⟨s0, s1, s2, sz, sl⟩ := hW; go_simp) (fun K hK => ?_); go_simp; apply hK; clear hK K
                    refine wpZ_one (i := 5) rfl (by kernel_rfl) rfl (fun K hK => ?_)
                    go_simp
                    refine ⟨k6.alloc _, hK _ _ ?_⟩
                    clear hK K
                    refine wpZ_nil (by kernel_rfl) ?_
                    simp only [List.filterMap_cons, List.filterMap_nil, List.getElem?_cons_succ, List.getElem?_cons_zero]
                    have hfr := own_fresh (own_below (OwnI.but HVs.out hb6 (by omega)) ((Below.refl w6.heap.size w6).alloc (Nat.le_refl _) (.cells #[.int .i64 vn] 3)) (Nat.le_refl _))
                    refine wpList_append_one rfl _ _ 24 3 _ 1 8 rfl Tryz.underlying24 intInfo rfl (by decide) (by decide) (KB + 1) (.slice V vs.length q) vs.length (vs.map (Value.int .i64)) [.int .i64 vn] rfl (own_below (OwnI.but HVs.out hb6 (by omega)) ((Below.refl w6.heap.size w6).alloc (Nat.le_refl _) _) (Nat.le_refl _)) w6.heap.size 1 rfl rfl (cells1 (by go_simp)) (by simp [Value.oneCell']) (by omega) (by have := k6.lt; simp; omega) ?_
                    intro v7 w7 ho7 hg7 _
                    obtain ⟨V', q', rfl⟩ := own_sl ho7
                    have ho7' : OwnI w7 (KB + 1) V' q' (vs ++ [vn]) := by
                     unfold OwnI
                     rw [List.map_append, List.length_append]
                     exact ho7
                    have k7 := (k6.alloc (.cells #[.int .i64 vn] 3)).grown hg7 hfr (Nat.lt_succ_self _)
                    have h7 := (h6.alloc (.cells #[.int .i64 vn] 3)).grown hg7 (fun k hk => by have := hfr k hk; omega)
                    have hb7 := ((hbi.trans hb6).alloc (.cells #[.int .i64 vn] 3)).grown hg7 (fun k hk => by have := hfr k hk; have := HKe.out; omega)
                    obtain ⟨s0, s1, s2, sz, sl⟩ := k7
                    go_simp
                    go_wp2_with fail
                    go_roundg (n - vs.length)
                    case measure => omega
                    case rel => exact ⟨l', A6, c6, vs ++ [vn], V', q', by simp only [List.length_append, List.length_cons, List.length_nil]; omega, by simp only [List.length_append, List.length_cons, List.length_nil]; omega, by simp, by simp only [List.length_cons] at hll; omega, hb7.set _ (.inr (by show w5.heap.size ≤ KB; have := HKe.out; omega)), h7.set _ (by show rb < KB; omega), by simpa using (C3.mk s0 s1 s2 sz sl).set1 _, hQ0 (ho7'.low (by show KB < KB + 1; omega) _), hQ0 (by rw [HJ4.out, show n - (vs ++ [vn]).length = m by simp only [List.length_append, List.length_cons, List.length_nil]; omega])⟩
                  · have k2' : isK l 2 = false := by simpa using k2
                    obtain rfl : R = .err 4 (atR l e) := by
                     rw [HJ3.out]
                     cases l with
                     | nil => rfl
                     | cons y l => simp only [numsF]; rw [if_neg (isK_not k2')]; rfl
                    go_wp2_with fail
                    have hS0 : C3 wr.drew KB (.string kt) (.slice V vs.length q) (.int .i64 kp) := k3i.block (Nat.le_refl _) rfl
                    refine wp_region_Z (fun W => C3 W KB (.string kt) (.slice V vs.length q) (.int .i64 kp)) 6 [6, 7, 8] (by kernel_rfl) (by kernel_rfl) ?_
                    refine wpZ_step (i := 0) rfl (by kernel_rfl) rfl (.pointer (some ⟨KB, 1, none⟩)) (fun _ _ _ h => h) (by assumption) (fun W hW => by obtain ⟨s0, s1, s2, sz, sl⟩ := hW; go_simp) (fun K hK => ?_); go_simp; apply hK; clear hK K
                    refine wpZ_step (i := 1) rfl (by kernel_rfl) rfl (.slice V vs.length q) (fun _ _ _ h => h) (by assumption) (fun W hW => by obtain ⟨s0, s1, s2, sz, sl⟩ := hW; go_simp) (fun K hK => ?_); go_simp; apply hK; clear hK K
                    refine wpZ_step (i := 2) rfl (by kernel_rfl) rfl (.pointer (some ⟨rb, 0, none⟩)) (fun _ _ _ h => h) (by assumption) (fun W hW => by obtain ⟨s0, s1, s2, sz, sl⟩ := hW; go_simp) (fun K hK => ?_); go_simp; apply hK; clear hK K
                    refine wpZ_one (i := 3) rfl (by kernel_rfl) rfl (fun K hK => ?_)
                    go_simp
                    (go_at_call 154; refine (take_bad _ _ _ _ _ _ _ hri.drew _ k2').mono ?_; rintro e w6 ⟨rfl, hb6⟩)
                    exact ⟨rfl, (hbw5.trans hbi).below (below_drew hb6) (Nat.le_trans hbw5.size hbi.size), rfl⟩
                · obtain rfl : n = vs.length := by omega
                  have i1 : ¬ (vs.length : Int) < (vs.length : Int) := by omega
                  have HJ4 : Hid (R = mkI tx ⟨#[]⟩ pl (keysF e tx f (ks ++ [⟨kt, vs, kp⟩]) l)) := hQ0 (by rw [HJ3.out, Nat.sub_self]; rfl)
                  obtain ⟨y0, y1, y2, y3, yz, yl⟩ := b5.but hbi hne
                  have HO6 := HO5.out.but hbi (by omega)
                  have hkq : KsOwn (wr.alloc (.cells #[.string kt, .slice V vs.length q, .int .i64 kp] 120)) (XB + 1) 120 B d ks := HO6.below ((Below.refl wr.heap.size wr).alloc (Nat.le_refl _) _) (Nat.le_refl _)
                  have hvq : OwnI (wr.alloc (.cells #[.string kt, .slice V vs.length q, .int .i64 kp] 120)) (XB + 1) V q vs := (OwnI.weaker HVs.out (by omega : XB + 1 ≤ KB + 1)) |> fun h => own_below h ((Below.refl wr.heap.size wr).alloc (Nat.le_refl _) _) (Nat.le_refl _)
                  obtain ⟨xs, hxs, hmore⟩ := hkq.more (by decide)
                  have HM := hQ0 hmore
                  have HXS := hQ0 hxs
                  have K3 := hQ0 k3i
                  obtain ⟨s0, s1, s2, sz, sl⟩ := k3i
                  have hfr := own_fresh hxs
                  have HFR := hQ0 hfr
                  have hVQ := hQ0 hvq
                  clear hmore hxs hfr hvq hkq HO6
                  go_wp2_with (at_builtin; go_must (refine wpList_append_one rfl _ _ 95 120 _ 3 48 rfl Tryz.underlying95 keyInfo rfl (by decide) (by decide) (XB + 1) (.slice B ks.length d) ks.length xs (cellsOfK ⟨kt, vs, kp⟩ V q) rfl HXS.out wr.heap.size 1 rfl rfl (C3.new wr _ _ _ _).cells (by simp [cellsOfK, Value.oneCell']) (by omega) (by simp; omega) ?_))
                  intro v7 w7 ho7 hg7 _
                  obtain ⟨B', d', rfl, hk7⟩ := HM.out ⟨kt, vs, kp⟩ V q v7 w7 hVQ.out ho7 hg7
                  have b7 := ((C4.mk y0 y1 y2 y3 yz yl).alloc (.cells #[.string kt, .slice V vs.length q, .int .i64 kp] 120)).grown hg7 HFR.out (Nat.lt_succ_self _)
                  have x7 := ((x5.but hbi hne0).alloc (.cells #[.string kt, .slice V vs.length q, .int .i64 kp] 120)).grown hg7 HFR.out (by omega)
                  have h7 := (hri.alloc (.cells #[.string kt, .slice V vs.length q, .int .i64 kp] 120)).grown hg7 (fun k hk => by have := HFR.out k hk; omega)
                  have hb7 := ((hbw5.trans hbi).alloc (.cells #[.string kt, .slice V vs.length q, .int .i64 kp] 120)).grown hg7 (fun k hk => by have := HFR.out k hk; omega)
                  have HT7 := hQ0 (((HT5.out.but hbi h3).alloc (.cells #[.string kt, .slice V vs.length q, .int .i64 kp] 120)).grown hg7 (fun k hk => by have := HFR.out k hk; omega))
                  have HV7 : Hid (∀ k ∈ ks ++ [(⟨kt, vs, kp⟩ : KV)], k.vals.length ≤ 2) := hQ0 (by
                   intro k hk
                   rcases List.mem_append.1 hk with h | h
                   · exact HV.out k h
                   · rw [List.mem_singleton] at h
                     rw [h]
                     show vs.length ≤ 2
                     omega)
                  clear y0 y1 y2 y3 yz yl s0 s1 s2 sz sl
                  obtain ⟨y0, y1, y2, y3, yz, yl⟩ := b7
                  go_wp2_with fail
                  go_roundg (l.length + 1)
                  case measure => omega
                  case rel => exact ⟨l, A, c, ks ++ [⟨kt, vs, kp⟩], B', d', f, by omega, by omega, by simp only [List.length_append, List.length_cons, List.length_nil]; omega, HV7, hb7.set _ (.inr (by show w.heap.size ≤ XB; omega)), x7.low (by show XB ≠ w.heap.size; omega) _, by simpa using (C4.mk y0 y1 y2 y3 yz yl).set2 _, hQ0 (hk7.low (by show XB < XB + 1; omega) _), h7.set _ (by show rb < XB; omega), HJ4, hQ0 (HT7.out.set (by show 3 ≤ XB; omega) _)⟩
          · have k1' : isK l 1 = false := by simpa using k1
            obtain rfl : R = .err 4 (atR l e) := by
             rw [HJ.out]
             cases l with
             | nil => rfl
             | cons y l => simp only [keysF]; rw [if_neg (isK_not k3'), if_pos (isK_not k1')]; rfl
            go_wp2_with (first | (go_at_call 156; refine (is_any _ _ _ _ _ _ _ hr _).mono ?_; rintro e w3 ⟨rfl, rfl⟩; rw [k3']) | (go_at_call 154; refine (take_bad _ _ _ _ _ _ _ hr _ k1').mono ?_; rintro e w3 ⟨rfl, hb3⟩))
            exact ⟨rfl, hbr.below hb3 hbr.size, rfl⟩
     · have b2 : (tx.toList == [116, 97, 98, 108, 101]) = false := txt_neL htab
       have hR0 : itemF e (⟨1, tx, nm, pl⟩ :: l1) = (match l1 with
         | [] => .err 4 e
         | y :: l' => if y.kind ≠ 1 then .err 4 y.at_ else restF e tx y.text pl l') := by simp only [itemF]; rw [if_neg (by simp), if_neg (by simp [hw]), if_neg htab]; cases l1 <;> rfl
       clear htab
       simp only [List.length_cons] at hl
       by_cases k2 : isK l1 1 = true
       · obtain ⟨⟨kd, yt, yn, yp⟩, l2, rfl, hy⟩ := isK_cons k2
         simp only at hy
         subst hy
         have hR : itemF e (⟨1, tx, nm, pl⟩ :: ⟨1, yt, yn, yp⟩ :: l2) = mkI tx yt pl (keysF e tx (l2.length + 1) [] l2) := by rw [hR0]; simp only; rw [if_neg (by simp), restF_eq]
         obtain ⟨R, hRe⟩ : ∃ R, R = mkI tx yt pl (keysF e tx (l2.length + 1) [] l2) := ⟨_, rfl⟩
         have HR := hQ0 hRe
         rw [hR, ← hRe]
         clear hR hRe hR0 k2
         simp only [List.length_cons] at hl
         go_enter Tryz.func93, Tryz.ntmps93; (try simp only [List.append_eq, List.cons_append, List.nil_append])
         go_wp2_with (first | (go_at_call 154; refine (take_ok _ _ _ _ _ _ _ _ h1 _ rfl).mono ?_; rintro e w1 ⟨rfl, hb1, A1, c1, h2⟩; simp only [vOfW]) | (go_at_call 155; refine (keys_any _ _).mono ?_; rintro e w2 ⟨rfl, hb2⟩; obtain ⟨d0, d1, d2, d3, dz, dl⟩ := (C4.new w1 (.int .i64 1) (.string tx) (.int .i64 nm) (.int .i64 pl) 239).below hb2 (by simp)) | (go_at_call 154; refine (take_ok _ _ _ _ _ _ _ _ ((h2.alloc (.cells #[.int .i64 1, .string tx, .int .i64 nm, .int .i64 pl] 239)).below hb2 (Nat.le_refl _) |>.alloc (.cells #[.string tx, .string ⟨#[]⟩, .slice none 0 0, .int .i64 pl] 97)) _ rfl).mono ?_; rintro e w3 ⟨rfl, hb3, A2, c2, h3'⟩; simp only [vOfW]; obtain ⟨z0, z1, z2, z3, zz, zl⟩ := (C4.new w2 (.string tx) (.string ⟨#[]⟩) (.slice none 0 0) (.int .i64 pl) 97).but hb3 (by have := hb1.size; have := hb2.size; simp at *; omega)))
         have hz1 := hb1.size
         simp at hz1
         have hz2 := hb2.size
         simp at hz2
         obtain ⟨XB, hXe⟩ : ∃ XB, XB = w2.heap.size := ⟨_, rfl⟩
         have hX0' := (((((hX0.but hb1 (by omega)).alloc (.cells #[.int .i64 1, .string tx, .int .i64 nm, .int .i64 pl] 239)).below hb2 (by simp; omega)).alloc (.cells #[.string tx, .string ⟨#[]⟩, .slice none 0 0, .int .i64 pl] 97)).but hb3 (by omega)).low (p := ⟨w2.heap.size, 1, none⟩) (by show w2.heap.size ≠ _; omega) (.string yt)
         have hXB := (C4.mk z0 z1 z2 z3 zz zl).set1 (.string yt)
         have hrd := h3'.set (p := ⟨w2.heap.size, 1, none⟩) (.string yt) (by show rb < w2.heap.size; omega)
         have hbut := (((((hb0.trans hb1).alloc (.cells #[.int .i64 1, .string tx, .int .i64 nm, .int .i64 pl] 239)).below hb2 (by simp; omega)).alloc (.cells #[.string tx, .string ⟨#[]⟩, .slice none 0 0, .int .i64 pl] 97)).trans hb3).set (p := ⟨w2.heap.size, 1, none⟩) (.string yt) (.inr (by show w.heap.size ≤ w2.heap.size; omega))
         have HT0 := hQ0 ((((((HT.out.but hb1 h3).alloc (.cells #[.int .i64 1, .string tx, .int .i64 nm, .int .i64 pl] 239)).below hb2 (by simp; omega)).alloc (.cells #[.string tx, .string ⟨#[]⟩, .slice none 0 0, .int .i64 pl] 97)).but hb3 h3).set (p := ⟨w2.heap.size, 1, none⟩) (by show 3 ≤ w2.heap.size; omega) (.string yt))
         rw [← hXe] at hX0' hXB hrd hbut HT0 ⊢
         have hXw : w.heap.size + 1 ≤ XB := by omega
         clear hXe h h1 hb0 hX0 HT hb1 hb2 h2 b1 b2 d0 d1 d2 d3 dz dl z0 z1 z2 z3 zz zl hb3 h3'
         go_loopg [] (l2.length + 1) (fun gk wr => ∃ (l : List WV) (A : Option Addr) (c : Nat) (ks : List KV) (B : Option Addr) (d f : Nat), l.length < gk ∧ l.length < f ∧ ks.length + l.length ≤ 20000 ∧ Hid (∀ k ∈ ks, k.vals.length ≤ 2) ∧ But rb w wr ∧ C4 wr w.heap.size (.string ⟨#[]⟩) (.string ⟨#[]⟩) (.slice none 0 0) (.int .i64 0) ∧ C4 wr XB (.string tx) (.string yt) (.slice B ks.length d) (.int .i64 pl) ∧ Hid (KsOwn wr (XB + 1) 120 B d ks) ∧ RdAt wr rb N A l e c ∧ Hid (R = mkI tx yt pl (keysF e tx f ks l)) ∧ Hid (Tabs wr))
         case atStart => exact ⟨l2, A2, c2, [], none, 0, l2.length + 1, by omega, by omega, by simp; omega, hQ0 (by simp), hbut, hX0', hXB, hQ0 (KsOwn.nil _ _ _), hrd, HR, HT0⟩
         case round =>
          obtain ⟨l, A, c, ks, B, d, f, hlk, hlf, hkl, HV, hbr, x4, b4, HO, hr, HJ, HTr⟩ := hrel
          have hr0 := hr.lt
          have hne : XB ≠ rb := by omega
          have hne0 : w.heap.size ≠ rb := by omega
          obtain ⟨f, rfl⟩ : ∃ g, f = g + 1 := ⟨f - 1, by omega⟩
          have hlK := b4.lt
          obtain ⟨y0, y1, y2, y3, yz, yl⟩ := b4
          by_cases k3 : isK l 3 = true
          · obtain ⟨⟨kd, t3, n3, p3⟩, lr, rfl, hx3⟩ := isK_cons k3
            simp only at hx3
            subst hx3
            obtain rfl : R = .ok ⟨tx, yt, ks, pl⟩ lr := HJ.out
            go_wp2_with (first | (go_at_call 156; refine (is_any _ _ _ _ _ _ _ hr _).mono ?_; rintro e w3 ⟨rfl, rfl⟩; rw [k3]) | (go_at_call 154; refine (take_ok _ _ _ _ _ _ _ _ hr _ rfl).mono ?_; rintro e w3 ⟨rfl, hb3, A3, c3, h3'⟩; obtain ⟨u0, u1, u2, u3, uz, ul⟩ := x4.but hb3 hne0; obtain ⟨z0, z1, z2, z3, zz, zl⟩ := (C4.mk y0 y1 y2 y3 yz yl).but hb3 hne))

            refine bodyPost_ret (v := .agg #[.string tx, .string yt, .slice B ks.length d, .int .i64 pl]) (by simp only [results, Tryz.results93]; go_simp) rfl ⟨?_, ?_⟩
            · exact ((((hbr.trans hb3).set _ (.inr (Nat.le_refl _))).set _ (.inr (Nat.le_refl _))).set _ (.inr (Nat.le_refl _))).set _ (.inr (Nat.le_refl _))
            · refine ⟨B, d, A3, c3, rfl, ?_, ?_⟩
              · exact ((((HO.out.but hb3 (by omega)).low (p := ⟨w.heap.size, 0, none⟩) (by show w.heap.size < _; omega) _).low (p := ⟨w.heap.size, 1, none⟩) (by show w.heap.size < _; omega) _).low (p := ⟨w.heap.size, 2, none⟩) (by show w.heap.size < _; omega) _).low (p := ⟨w.heap.size, 3, none⟩) (by show w.heap.size < _; omega) _ |>.weaker (by omega)
              · exact (((h3'.set _ (by show rb < w.heap.size; omega)).set _ (by show rb < w.heap.size; omega)).set _ (by show rb < w.heap.size; omega)).set _ (by show rb < w.heap.size; omega)
          · have k3' : isK l 3 = false := by simpa using k3
            by_cases k1 : isK l 1 = true
            · obtain ⟨⟨kd, kt, kn, kp⟩, lr, rfl, hx1⟩ := isK_cons k1
              simp only at hx1
              subst hx1
              by_cases ha : arR tx kt < 0
              · obtain rfl : R = .err 4 kp := by rw [HJ.out]; simp only [keysF]; rw [if_neg (by simp), if_neg (by simp), if_pos ha]; rfl
                go_wp2_with (first | (go_at_call 156; refine (is_any _ _ _ _ _ _ _ hr _).mono ?_; rintro e w3 ⟨rfl, rfl⟩; rw [k3']) | (go_at_call 154; refine (take_ok _ _ _ _ _ _ _ _ hr _ rfl).mono ?_; rintro e w3 ⟨rfl, hb3, A3, c3, h3'⟩; simp only [vOfW]; obtain ⟨z0, z1, z2, z3, zz, zl⟩ := (C4.mk y0 y1 y2 y3 yz yl).but hb3 hne) | (go_at_call 157; refine (arity_any _ _ _ ((HTr.out.but hb3 h3).alloc _)).mono ?_; rintro e w4 ⟨rfl, hb4⟩; obtain ⟨q0, q1, q2, q3, qz, ql⟩ := (C4.new w3 (.int .i64 1) (.string kt) (.int .i64 kn) (.int .i64 kp) 239).below hb4 (by simp)))
                exact ⟨rfl, ((hbr.trans hb3).alloc _).below hb4 (by have := hb3.size; have := hbr.size; simp; omega), rfl⟩
              · have hge : 0 ≤ arR tx kt := by omega
                have hle := (arR_bd tx kt).2
                cases hG : getR ks kt with
                | some vs =>
                 have hh : hasK ks kt = true := by rw [hasK_get, hG]; rfl
                 obtain rfl : R = .err 7 kp := by rw [HJ.out]; simp only [keysF]; rw [if_neg (by simp), if_neg (by simp), if_neg ha, if_pos hh]; rfl
                 go_wp2_with (first | (go_at_call 156; refine (is_any _ _ _ _ _ _ _ hr _).mono ?_; rintro e w3 ⟨rfl, rfl⟩; rw [k3']) | (go_at_call 154; refine (take_ok _ _ _ _ _ _ _ _ hr _ rfl).mono ?_; rintro e w3 ⟨rfl, hb3, A3, c3, h3'⟩; simp only [vOfW]; obtain ⟨z0, z1, z2, z3, zz, zl⟩ := (C4.mk y0 y1 y2 y3 yz yl).but hb3 hne) | (go_at_call 157; refine (arity_any _ _ _ ((HTr.out.but hb3 h3).alloc _)).mono ?_; rintro e w4 ⟨rfl, hb4⟩; obtain ⟨q0, q1, q2, q3, qz, ql⟩ := (C4.new w3 (.int .i64 1) (.string kt) (.int .i64 kn) (.int .i64 kp) 239).below hb4 (by simp); obtain ⟨m0, m1, m2, m3, mz, ml⟩ := ((C4.mk z0 z1 z2 z3 zz zl).alloc _).below hb4 (by simp; omega)) | (go_at_call 103; refine (get_any ⟨tx, yt, ks, pl⟩ B d kt _ (((HO.out.but hb3 (by omega)).at.below ((Below.refl w3.heap.size w3).alloc (Nat.le_refl _) _) (Nat.le_refl _)).below hb4 (Nat.le_refl _)) (by simp at hkl; show ks.length ≤ _; omega) (fun k hk => by have := HV.out k hk; omega)).mono ?_; rintro e w5 ⟨hb5, hg⟩; rw [hG] at hg; obtain ⟨A5, c5, rfl, _⟩ := hg; obtain ⟨r0, r1, r2, r3, rz, rl⟩ := (C4.mk q0 q1 q2 q3 qz ql).below hb5 (by omega)))
                 exact ⟨rfl, (((hbr.trans hb3).alloc _).below hb4 (by have := hb3.size; have := hbr.size; simp; omega)).below hb5 (by have := hb3.size; have := hbr.size; have := hb4.size; simp at *; omega), rfl⟩
                | none =>
                 have hh : hasK ks kt = false := by rw [hasK_get, hG]; rfl
                 obtain ⟨n, hn⟩ : ∃ n : Nat, arR tx kt = n := ⟨(arR tx kt).toNat, by omega⟩
                 have HJ2 : Hid (R = mkI tx yt pl (numK e tx f ks kt kp (numsF e (n - 0) [] lr))) := hQ0 (by rw [HJ.out, keysF_key rfl ha hh, hn]; rfl)
                 rw [hn] at ha hge hle
                 have HN := hQ0 hn
                 clear hn
                 go_wp2_with (first | (go_at_call 156; refine (is_any _ _ _ _ _ _ _ hr _).mono ?_; rintro e w3 ⟨rfl, rfl⟩; rw [k3']) | (go_at_call 154; refine (take_ok _ _ _ _ _ _ _ _ hr _ rfl).mono ?_; rintro e w3 ⟨rfl, hb3, A3, c3, h3'⟩; simp only [vOfW]; obtain ⟨z0, z1, z2, z3, zz, zl⟩ := (C4.mk y0 y1 y2 y3 yz yl).but hb3 hne) | (go_at_call 157; refine (arity_any _ _ _ ((HTr.out.but hb3 h3).alloc _)).mono ?_; rintro e w4 ⟨rfl, hb4⟩; rw [HN.out]; obtain ⟨q0, q1, q2, q3, qz, ql⟩ := (C4.new w3 (.int .i64 1) (.string kt) (.int .i64 kn) (.int .i64 kp) 239).below hb4 (by simp); obtain ⟨m0, m1, m2, m3, mz, ml⟩ := ((C4.mk z0 z1 z2 z3 zz zl).alloc _).below hb4 (by simp; omega)) | (go_at_call 103; refine (get_any ⟨tx, yt, ks, pl⟩ B d kt _ (((HO.out.but hb3 (by omega)).at.below ((Below.refl w3.heap.size w3).alloc (Nat.le_refl _) _) (Nat.le_refl _)).below hb4 (Nat.le_refl _)) (by simp at hkl; show ks.length ≤ _; omega) (fun k hk => by have := HV.out k hk; omega)).mono ?_; rintro e w5 ⟨hb5, hg⟩; rw [hG] at hg; obtain rfl := hg; obtain ⟨r0, r1, r2, r3, rz, rl⟩ := (C4.mk q0 q1 q2 q3 qz ql).below hb5 (by omega)))
                 have hz3 := hb3.size
                 have hz4 := hb4.size
                 have hz5 := hb5.size
                 simp at hz4
                 simp only [List.length_cons] at hkl hlk hlf
                 obtain ⟨KB, hKe⟩ : ∃ KB, KB = w5.heap.size := ⟨_, rfl⟩
                 have hbk : But rb wr w5 := ((hb3.alloc (.cells #[.int .i64 1, .string kt, .int .i64 kn, .int .i64 kp] 239)).below hb4 (by simp; omega)).below hb5 (by omega)
                 have HO5 := hQ0 (HO.out.but hbk (by omega))
                 have x5 := x4.but hbk hne0
                 have b5 := (C4.mk y0 y1 y2 y3 yz yl).but hbk hne
                 have HT5 := hQ0 (HTr.out.but hbk h3)
                 have hr5 := (((h3'.alloc (.cells #[.int .i64 1, .string kt, .int .i64 kn, .int .i64 kp] 239)).below hb4 (Nat.le_refl _)).below hb5 (Nat.le_refl _)).alloc (.cells #[.string kt, .slice none 0 0, .int .i64 kp] 120)
                 have k5 := C3.new w5 (.string kt) (.slice none 0 0) (.int .i64 kp) 120
                 have hbw5 := hbr.trans hbk
                 have hbi0 := (But.refl rb w5).alloc (.cells #[.string kt, .slice none 0 0, .int .i64 kp] 120)
                 rw [← hKe] at k5 ⊢
                 have hKx : XB < KB := by omega
                 have HKe := hQ0 hKe
                 clear hKe hb3 hb4 hb5 hbk HO x4 HTr h3' hbr hr y0 y1 y2 y3 yz yl z0 z1 z2 z3 zz zl q0 q1 q2 q3 qz ql m0 m1 m2 m3 mz ml r0 r1 r2 r3 rz rl HJ k1 k3 k3' hG hh hz3 hz4 hz5
                 go_loopg [66] (n + 1) (fun gk t wi => ∃ (l : List WV) (A : Option Addr) (c : Nat) (vs : List Int) (V : Option Addr) (q : Nat), vs.length ≤ n ∧ n - vs.length < gk ∧ t = .int .i64 vs.length ∧ l.length ≤ lr.length ∧ But rb w5 wi ∧ RdAt wi rb N A l e c ∧ C3 wi KB (.string kt) (.slice V vs.length q) (.int .i64 kp) ∧ Hid (OwnI wi (KB + 1) V q vs) ∧ Hid (R = mkI tx yt pl (numK e tx f ks kt kp (numsF e (n - vs.length) vs l))))
                 case atStart => exact ⟨lr, A3, c3, [], none, 0, by simp, by simp, rfl, Nat.le_refl _, hbi0, hr5, k5, hQ0 (OwnI.nil _ _), HJ2⟩
                 case round =>
                  obtain ⟨l, A, c, vs, V, q, hi, hik, rfl, hll, hbi, hri, k3i, HVs, HJ3⟩ := hrel
                  have hri0 := hri.lt
                  by_cases hin : vs.length < n
                  · obtain ⟨m, hm⟩ : ∃ m, n - vs.length = m + 1 := ⟨n - vs.length - 1, by omega⟩
                    rw [hm] at HJ3
                    have i1 : (vs.length : Int) < (n : Int) := by omega
                    by_cases k2 : isK l 2 = true
                    · obtain ⟨⟨kd, vt, vn, vp⟩, l', rfl, hx2⟩ := isK_cons k2
                      simp only at hx2
                      subst hx2
                      have HJ4 : Hid (R = mkI tx yt pl (numK e tx f ks kt kp (numsF e m (vs ++ [vn]) l'))) := hQ0 (by rw [HJ3.out]; rfl)
                      go_wp2_with fail
                      have hS0 : C3 wr.drew KB (.string kt) (.slice V vs.length q) (.int .i64 kp) := k3i.block (Nat.le_refl _) rfl
                      refine wp_region_Z (fun W => C3 W KB (.string kt) (.slice V vs.length q) (.int .i64 kp)) 6 [6, 7, 8] (by kernel_rfl) (by kernel_rfl) ?_
                      refine wpZ_step (i := 0) rfl (by kernel_rfl) rfl (.pointer (some ⟨KB, 1, none⟩)) (fun _ _ _ h => h) (by assumption) (fun W hW => by obtain ⟨s0, s1, s2, sz, sl⟩ := hW; go_simp) (fun K hK => ?_); go_simp; apply hK; clear hK K
                      refine wpZ_step (i := 1) rfl (by kernel_rfl) rfl (.slice V vs.length q) (fun _ _ _ h => h) (by assumption) (fun W hW => by obtain ⟨s0, s1, s2, sz, sl⟩ := hW; go_simp) (fun K hK => ?_); go_simp; apply hK; clear hK K
                      refine wpZ_step (i := 2) rfl (by kernel_rfl) rfl (.pointer (some ⟨rb, 0, none⟩)) (fun _ _ _ h => h) (by assumption) (fun W hW => by obtain ⟨s0, s1, s2, sz, sl⟩ := hW; go_simp) (fun K hK => ?_); go_simp; apply hK; clear hK K
                      refine wpZ_one (i := 3) rfl (by kernel_rfl) rfl (fun K hK => ?_)
                      go_simp
                      (go_at_call 154; refine (take_ok _ _ _ _ _ _ _ _ hri.drew _ rfl).mono ?_; rintro e w6 ⟨rfl, hb6, A6, c6, h6⟩; simp only [vOfW])
                      replace hb6 := hb6.of_drew
                      have k6 := k3i.but hb6 (by omega)
                      refine ⟨k6, hK _ _ ?_⟩
                      clear hK K hS0
                      refine wpZ_step (i := 4) rfl (by kernel_rfl) rfl (.int .i64 vn) (fun _ _ _ h => h) (by assumption) (fun W hW => by obtain ⟨s0, s1, s2, sz, sl⟩ := hW; go_simp) (fun K hK => ?_); go_simp; apply hK; clear hK K
                      refine wpZ_one (i := 5) rfl (by kernel_rfl) rfl (fun K hK => ?_)
                      go_simp
                      refine ⟨k6.alloc _, hK _ _ ?_⟩
                      clear hK K
                      refine wpZ_nil (by kernel_rfl) ?_
                      simp only [List.filterMap_cons, List.filterMap_nil, List.getElem?_cons_succ, List.getElem?_cons_zero]
                      have hfr := own_fresh (own_below (OwnI.but HVs.out hb6 (by omega)) ((Below.refl w6.heap.size w6).alloc (Nat.le_refl _) (.cells #[.int .i64 vn] 3)) (Nat.le_refl _))
                      refine wpList_append_one rfl _ _ 24 3 _ 1 8 rfl Tryz.underlying24 intInfo rfl (by decide) (by decide) (KB + 1) (.slice V vs.length q) vs.length (vs.map (Value.int .i64)) [.int .i64 vn] rfl (own_below (OwnI.but HVs.out hb6 (by omega)) ((Below.refl w6.heap.size w6).alloc (Nat.le_refl _) _) (Nat.le_refl _)) w6.heap.size 1 rfl rfl (cells1 (by go_simp)) (by simp [Value.oneCell']) (by omega) (by have := k6.lt; simp; omega) ?_
                      intro v7 w7 ho7 hg7 _
                      obtain ⟨V', q', rfl⟩ := own_sl ho7
                      have ho7' : OwnI w7 (KB + 1) V' q' (vs ++ [vn]) := by
                       unfold OwnI
                       rw [List.map_append, List.length_append]
                       exact ho7
                      have k7 := (k6.alloc (.cells #[.int .i64 vn] 3)).grown hg7 hfr (Nat.lt_succ_self _)
                      have h7 := (h6.alloc (.cells #[.int .i64 vn] 3)).grown hg7 (fun k hk => by have := hfr k hk; omega)
                      have hb7 := ((hbi.trans hb6).alloc (.cells #[.int .i64 vn] 3)).grown hg7 (fun k hk => by have := hfr k hk; have := HKe.out; omega)
                      obtain ⟨s0, s1, s2, sz, sl⟩ := k7
                      go_simp
                      go_wp2_with fail
                      go_roundg (n - vs.length)
                      case measure => omega
                      case rel => exact ⟨l', A6, c6, vs ++ [vn], V', q', by simp only [List.length_append, List.length_cons, List.length_nil]; omega, by simp only [List.length_append, List.length_cons, List.length_nil]; omega, by simp, by simp only [List.length_cons] at hll; omega, hb7.set _ (.inr (by show w5.heap.size ≤ KB; have := HKe.out; omega)), h7.set _ (by show rb < KB; omega), by simpa using (C3.mk s0 s1 s2 sz sl).set1 _, hQ0 (ho7'.low (by show KB < KB + 1; omega) _), hQ0 (by rw [HJ4.out, show n - (vs ++ [vn]).length = m by simp only [List.length_append, List.length_cons, List.length_nil]; omega])⟩
                    · have k2' : isK l 2 = false := by simpa using k2
                      obtain rfl : R = .err 4 (atR l e) := by
                       rw [HJ3.out]
                       cases l with
                       | nil => rfl
                       | cons y l => simp only [numsF]; rw [if_neg (isK_not k2')]; rfl
                      go_wp2_with fail
                      have hS0 : C3 wr.drew KB (.string kt) (.slice V vs.length q) (.int .i64 kp) := k3i.block (Nat.le_refl _) rfl
                      refine wp_region_Z (fun W => C3 W KB (.string kt) (.slice V vs.length q) (.int .i64 kp)) 6 [6, 7, 8] (by kernel_rfl) (by kernel_rfl) ?_
                      refine wpZ_step (i := 0) rfl (by kernel_rfl) rfl (.pointer (some ⟨KB, 1, none⟩)) (fun _ _ _ h => h) (by assumption) (fun W hW => by obtain ⟨s0, s1, s2, sz, sl⟩ := hW; go_simp) (fun K hK => ?_); go_simp; apply hK; clear hK K
                      refine wpZ_step (i := 1) rfl (by kernel_rfl) rfl (.slice V vs.length q) (fun _ _ _ h => h) (by assumption) (fun W hW => by obtain ⟨s0, s1, s2, sz, sl⟩ := hW; go_simp) (fun K hK => ?_); go_simp; apply hK; clear hK K
                      refine wpZ_step (i := 2) rfl (by kernel_rfl) rfl (.pointer (some ⟨rb, 0, none⟩)) (fun _ _ _ h => h) (by assumption) (fun W hW => by obtain ⟨s0, s1, s2, sz, sl⟩ := hW; go_simp) (fun K hK => ?_); go_simp; apply hK; clear hK K
                      refine wpZ_one (i := 3) rfl (by kernel_rfl) rfl (fun K hK => ?_)
                      go_simp
                      (go_at_call 154; refine (take_bad _ _ _ _ _ _ _ hri.drew _ k2').mono ?_; rintro e w6 ⟨rfl, hb6⟩)
                      exact ⟨rfl, (hbw5.trans hbi).below (below_drew hb6) (Nat.le_trans hbw5.size hbi.size), rfl⟩
                  · obtain rfl : n = vs.length := by omega
                    have i1 : ¬ (vs.length : Int) < (vs.length : Int) := by omega
                    have HJ4 : Hid (R = mkI tx yt pl (keysF e tx f (ks ++ [⟨kt, vs, kp⟩]) l)) := hQ0 (by rw [HJ3.out, Nat.sub_self]; rfl)
                    obtain ⟨y0, y1, y2, y3, yz, yl⟩ := b5.but hbi hne
                    have HO6 := HO5.out.but hbi (by omega)
                    have hkq : KsOwn (wr.alloc (.cells #[.string kt, .slice V vs.length q, .int .i64 kp] 120)) (XB + 1) 120 B d ks := HO6.below ((Below.refl wr.heap.size wr).alloc (Nat.le_refl _) _) (Nat.le_refl _)
                    have hvq : OwnI (wr.alloc (.cells #[.string kt, .slice V vs.length q, .int .i64 kp] 120)) (XB + 1) V q vs := (OwnI.weaker HVs.out (by omega : XB + 1 ≤ KB + 1)) |> fun h => own_below h ((Below.refl wr.heap.size wr).alloc (Nat.le_refl _) _) (Nat.le_refl _)
                    obtain ⟨xs, hxs, hmore⟩ := hkq.more (by decide)
                    have HM := hQ0 hmore
                    have HXS := hQ0 hxs
                    have K3 := hQ0 k3i
                    obtain ⟨s0, s1, s2, sz, sl⟩ := k3i
                    have hfr := own_fresh hxs
                    have HFR := hQ0 hfr
                    have hVQ := hQ0 hvq
                    clear hmore hxs hfr hvq hkq HO6
                    go_wp2_with (at_builtin; go_must (refine wpList_append_one rfl _ _ 95 120 _ 3 48 rfl Tryz.underlying95 keyInfo rfl (by decide) (by decide) (XB + 1) (.slice B ks.length d) ks.length xs (cellsOfK ⟨kt, vs, kp⟩ V q) rfl HXS.out wr.heap.size 1 rfl rfl (C3.new wr _ _ _ _).cells (by simp [cellsOfK, Value.oneCell']) (by omega) (by simp; omega) ?_))
                    intro v7 w7 ho7 hg7 _
                    obtain ⟨B', d', rfl, hk7⟩ := HM.out ⟨kt, vs, kp⟩ V q v7 w7 hVQ.out ho7 hg7
                    have b7 := ((C4.mk y0 y1 y2 y3 yz yl).alloc (.cells #[.string kt, .slice V vs.length q, .int .i64 kp] 120)).grown hg7 HFR.out (Nat.lt_succ_self _)
                    have x7 := ((x5.but hbi hne0).alloc (.cells #[.string kt, .slice V vs.length q, .int .i64 kp] 120)).grown hg7 HFR.out (by omega)
                    have h7 := (hri.alloc (.cells #[.string kt, .slice V vs.length q, .int .i64 kp] 120)).grown hg7 (fun k hk => by have := HFR.out k hk; omega)
                    have hb7 := ((hbw5.trans hbi).alloc (.cells #[.string kt, .slice V vs.length q, .int .i64 kp] 120)).grown hg7 (fun k hk => by have := HFR.out k hk; omega)
                    have HT7 := hQ0 (((HT5.out.but hbi h3).alloc (.cells #[.string kt, .slice V vs.length q, .int .i64 kp] 120)).grown hg7 (fun k hk => by have := HFR.out k hk; omega))
                    have HV7 : Hid (∀ k ∈ ks ++ [(⟨kt, vs, kp⟩ : KV)], k.vals.length ≤ 2) := hQ0 (by
                     intro k hk
                     rcases List.mem_append.1 hk with h | h
                     · exact HV.out k h
                     · rw [List.mem_singleton] at h
                       rw [h]
                       show vs.length ≤ 2
                       omega)
                    clear y0 y1 y2 y3 yz yl s0 s1 s2 sz sl
                    obtain ⟨y0, y1, y2, y3, yz, yl⟩ := b7
                    go_wp2_with fail
                    go_roundg (l.length + 1)
                    case measure => omega
                    case rel => exact ⟨l, A, c, ks ++ [⟨kt, vs, kp⟩], B', d', f, by omega, by omega, by simp only [List.length_append, List.length_cons, List.length_nil]; omega, HV7, hb7.set _ (.inr (by show w.heap.size ≤ XB; omega)), x7.low (by show XB ≠ w.heap.size; omega) _, by simpa using (C4.mk y0 y1 y2 y3 yz yl).set2 _, hQ0 (hk7.low (by show XB < XB + 1; omega) _), h7.set _ (by show rb < XB; omega), HJ4, hQ0 (HT7.out.set (by show 3 ≤ XB; omega) _)⟩
            · have k1' : isK l 1 = false := by simpa using k1
              obtain rfl : R = .err 4 (atR l e) := by
               rw [HJ.out]
               cases l with
               | nil => rfl
               | cons y l => simp only [keysF]; rw [if_neg (isK_not k3'), if_pos (isK_not k1')]; rfl
              go_wp2_with (first | (go_at_call 156; refine (is_any _ _ _ _ _ _ _ hr _).mono ?_; rintro e w3 ⟨rfl, rfl⟩; rw [k3']) | (go_at_call 154; refine (take_bad _ _ _ _ _ _ _ hr _ k1').mono ?_; rintro e w3 ⟨rfl, hb3⟩))
              exact ⟨rfl, hbr.below hb3 hbr.size, rfl⟩
       · have k2' : isK l1 1 = false := by simpa using k2
         have hR : itemF e (⟨1, tx, nm, pl⟩ :: l1) = .err 4 (atR l1 e) := by
          rw [hR0]
          cases l1 with
          | nil => rfl
          | cons y l => simp only; rw [if_pos (isK_not k2')]; rfl
         rw [hR]
         clear hR hR0
         go_enter Tryz.func93, Tryz.ntmps93; (try simp only [List.append_eq, List.cons_append, List.nil_append])
         go_wp2_with (first | (go_at_call 154; refine (take_ok _ _ _ _ _ _ _ _ h1 _ rfl).mono ?_; rintro e w1 ⟨rfl, hb1, A1, c1, h2⟩; simp only [vOfW]) | (go_at_call 155; refine (keys_any _ _).mono ?_; rintro e w2 ⟨rfl, hb2⟩; obtain ⟨d0, d1, d2, d3, dz, dl⟩ := (C4.new w1 (.int .i64 1) (.string tx) (.int .i64 nm) (.int .i64 pl) 239).below hb2 (by simp)) | (go_at_call 154; refine (take_bad _ _ _ _ _ _ _ ((h2.alloc (.cells #[.int .i64 1, .string tx, .int .i64 nm, .int .i64 pl] 239)).below hb2 (Nat.le_refl _) |>.alloc (.cells #[.string tx, .string ⟨#[]⟩, .slice none 0 0, .int .i64 pl] 97)) _ k2').mono ?_; rintro e w3 ⟨rfl, hb3⟩))
         have hz1 := hb1.size
         simp at hz1
         have hz2 := hb2.size
         simp at hz2
         exact ⟨rfl, ((((hb0.trans hb1).alloc (.cells #[.int .i64 1, .string tx, .int .i64 nm, .int .i64 pl] 239)).below hb2 (by simp; omega)).alloc (.cells #[.string tx, .string ⟨#[]⟩, .slice none 0 0, .int .i64 pl] 97)).below hb3 (by simp; omega), rfl⟩
 · have hR : itemF e l = .err 4 (atR l e) := by
    cases l with
    | nil => rfl
    | cons x l => have := isK_not (by simpa using k1); simp [itemF, this, atR]
   have k1' : isK l 1 = false := by simpa using k1
   rw [hR]
   go_enter Tryz.func93, Tryz.ntmps93; (try simp only [List.append_eq, List.cons_append, List.nil_append])
   go_wp2_with (go_at_call 154; refine (take_bad _ _ _ _ _ _ _ h1 _ k1').mono ?_; rintro e w1 ⟨rfl, hb1⟩)
   exact ⟨rfl, hb0.below hb1 (by simp), rfl⟩
set_option maxHeartbeats 1000000 in
theorem catch_idle (p q r : Addr) (w : World) :
  CallsD Tryz.prog 91 #[.pointer (some p), .pointer (some q), .pointer (some r)] .returning w fun e u' w' => e = .returned (.tuple #[]) ∧ u' = .returning ∧ w' = w := by
 refine callsD_of_wpS Tryz.func91 rfl fun c₀ cs hu => ?_
 simp only [Tryz.ntmps91, List.size_toArray, List.length_cons, List.length_nil, Nat.reduceAdd, Nat.reduceSub, Array.replicate_succ, Array.replicate_zero, List.push_toArray, List.append_toArray, List.nil_append, List.cons_append]
 apply wpS_seq
 apply wpS_region
 simp [wpOpsS, go_sem, recoverD, hu, Exit.thenS]
 refine wpS_of_wp ?_
 go_wp2_with fail
 cases c₀
 simp_all [bodyPostS, results, Tryz.results91]
def pan (e : Int) (a : Nat) (r : Bool) : List PanicEntry := [{ v := .iface 155 (.agg #[.int .i64 e, .int .i64 a]), recovered := r }]
set_option maxRecDepth 100000 in
set_option maxHeartbeats 1000000 in
theorem catch_fault (p q r : Nat) (e : Int) (a : Nat) (x y z : Value) (w : World) (hp : w.cell? ⟨p, 0, none⟩ = some x) (hq : w.cell? ⟨q, 0, none⟩ = some y) (hr : w.cell? ⟨r, 0, none⟩ = some z)
  (fp : ∀ o, w.frozen? ⟨p, o, none⟩ = false) (fq : ∀ o, w.frozen? ⟨q, o, none⟩ = false) (fr : ∀ o, w.frozen? ⟨r, o, none⟩ = false) (lp : p < w.heap.size) (lq : q < w.heap.size) (lr : r < w.heap.size) (n1 : p ≠ q) (n2 : p ≠ r) (n3 : q ≠ r) :
  CallsD Tryz.prog 91 #[.pointer (some ⟨p, 0, none⟩), .pointer (some ⟨q, 0, none⟩), .pointer (some ⟨r, 0, none⟩)] (.panicking (pan e a false)) w fun ε u' w' =>
   ε = .returned (.tuple #[]) ∧ u' = .panicking (pan e a true) ∧ w' = ((((w.setCell ⟨p, 0, none⟩ (.slice none 0 0)).setCell ⟨q, 0, none⟩ (.int .i64 e)).setCell ⟨r, 0, none⟩ (.int .i64 a)).alloc (.cells #[.int .i64 e, .int .i64 a] 155)).drew := by
 refine callsD_of_wpS Tryz.func91 rfl fun c₀ cs hu => ?_
 simp only [Tryz.ntmps91, List.size_toArray, List.length_cons, List.length_nil, Nat.reduceAdd, Nat.reduceSub, Array.replicate_succ, Array.replicate_zero, List.push_toArray, List.append_toArray, List.nil_append, List.cons_append]
 apply wpS_seq
 apply wpS_region
 have p1 : p ≠ w.heap.size := by omega
 have p2 : w.heap.size ≠ p := by omega
 have q1 : q ≠ w.heap.size := by omega
 have q2 : w.heap.size ≠ q := by omega
 have r1 : r ≠ w.heap.size := by omega
 have r2 : w.heap.size ≠ r := by omega
 have n1' := Ne.symm n1
 have n2' := Ne.symm n2
 have n3' := Ne.symm n3
 have hta : ∀ w : World, (Instr.typeAssert (.iface 155 (.agg #[.int .i64 e, .int .i64 a])) 20 155 false).run Tryz.prog w = .ok (.agg #[.int .i64 e, .int .i64 a]) w := fun _ => by kernel_rfl
 unfold pan at hu
 simp [wpOpsS, go_sem, recoverD, hu, Exit.thenS]
 refine wpS_of_wp ?_
 go_wp2_with fail
 go_region
 exact ⟨rfl, _, rfl, _, results_none rfl _ _ _, rfl, rfl, rfl⟩
structure C1 (w : World) (b : Nat) (v0 : Value) : Prop where
  c0 : w.cell? ⟨b, 0, none⟩ = some v0
  fz : ∀ o, w.frozen? ⟨b, o, none⟩ = false
  lt : b < w.heap.size
  one : ∀ o, 0 < o → w.cell? ⟨b, o, none⟩ = none
theorem C1.block {w w' : World} {b : Nat} {v0 : Value} (h : C1 w b v0) (hs : w.heap.size ≤ w'.heap.size) (hb : w'.heap[b]? = w.heap[b]?) : C1 w' b v0 :=
 ⟨(World.cell?_of_block (a := ⟨b, 0, none⟩) hb).trans h.c0, fun o => (World.frozen?_of_block (a := ⟨b, o, none⟩) hb).trans (h.fz o), Nat.lt_of_lt_of_le h.lt hs, fun o ho => (World.cell?_of_block (a := ⟨b, o, none⟩) hb).trans (h.one o ho)⟩
theorem C1.below {w w' : World} {b B : Nat} {v0 : Value} (h : C1 w b v0) (hb : Below B w w') (hB : b < B) : C1 w' b v0 := h.block hb.size (hb.block b hB)
theorem C1.but {w w' : World} {b rb : Nat} {v0 : Value} (h : C1 w b v0) (hb : But rb w w') (hn : b ≠ rb) : C1 w' b v0 := h.block hb.size (hb.block b h.lt hn)
theorem C1.alloc {w : World} {b : Nat} {v0 : Value} (h : C1 w b v0) (o : Obj) : C1 (w.alloc o) b v0 := h.block (by simp) (heap_alloc_old w o h.lt)
theorem C1.new (w : World) (v0 : Value) (e : TypeId) : C1 (w.alloc (.cells #[v0] e)) w.heap.size v0 := ⟨by go_simp, fun o => by go_simp, by simp, fun o ho => by rw [World.cell?_alloc_new]; simp; omega⟩
theorem C1.at (w : World) (b : Nat) (v0 : Value) (e : TypeId) (hb : b = w.heap.size) : C1 (w.alloc (.cells #[v0] e)) b v0 := by subst hb; exact C1.new w v0 e
theorem C1.low {w : World} {b : Nat} {v0 : Value} (h : C1 w b v0) {p : Addr} (hp : p.block ≠ b) (u : Value) : C1 (w.setCell p u) b v0 := h.block (by simp) (Below.heap_setCell _ _ _ _ (by omega))
theorem C1.set0 {w : World} {b : Nat} {v0 : Value} (h : C1 w b v0) (u : Value) : C1 (w.setCell ⟨b, 0, none⟩ u) b u := by
 obtain ⟨c0, fz, lt, one⟩ := h
 refine ⟨by go_simp, fun o => by go_simp, by simpa using lt, fun o ho => ?_⟩
 have := one o ho
 have hne : (⟨b, 0, none⟩ : Addr) ≠ ⟨b, o, none⟩ := fun e => by simp only [Addr.mk.injEq] at e; omega
 first | exact (World.cell?_setCell_other hne).trans this | exact (World.cell?_setCell_other _ hne).trans this | exact (World.cell?_setCell_other _ _ hne).trans this | exact (World.cell?_setCell_other _ _ _ hne).trans this | exact (World.cell?_setCell_other _ _ _ _ hne).trans this
theorem C1.grown {w w' : World} {b base : Nat} {v0 : Value} {row : Option Nat} (h : C1 w b v0) (hg : w.grownBy w' row) (hr : ∀ k, row = some k → base ≤ k) (hb : b < base) : C1 w' b v0 := h.block hg.size (hg.block b h.lt (fun e => by have := hr b e.symm; omega))
theorem RdAt.set_one {w : World} {rb N p : Nat} {A B : Option Addr} {l : List WV} {e c n d : Nat} (h : RdAt w rb N A l e c) (h1 : C1 w p (.slice B n d)) (hp : p ≠ rb) (u : Value) : RdAt (w.setCell ⟨p, 0, none⟩ u) rb N A l e c := by
 have hk : ∀ b, b ≠ p → (w.setCell ⟨p, 0, none⟩ u).heap[b]? = w.heap[b]? := fun b hb => Below.heap_setCell _ _ _ _ (by show b ≠ p; exact hb)
 have hr := hk rb (Ne.symm hp)
 refine ⟨(World.cell?_of_block hr).trans h.hw, (World.cell?_of_block hr).trans h.he, fun o => (World.frozen?_of_block hr).trans (h.fz o), by simpa using h.lt, h.nle, h.cap, fun k x hx => ?_⟩
 obtain ⟨g, o, hA, hg, hc⟩ := h.ws k x hx
 have hgp : g ≠ p := by
  rintro rfl
  have c0 := hc 0 _ rfl
  rcases Nat.eq_zero_or_pos (o + (k * 4 + 0)) with h0 | h0
  · rw [h0, h1.c0] at c0
    cases c0
  · rw [h1.one _ h0] at c0
    cases c0
 exact ⟨g, o, hA, hg, fun j u hu => (World.cell?_of_block (hk g hgp)).trans (hc j u hu)⟩
theorem leaves_put {P : Program} {fn : Func} {tmps tmps' : Array Value} {R : Ending → World → Prop} (hr : results fn tmps' = results fn tmps) : ∀ {ds : List Deferred} {u : FrameMode} {w : World}, Leaves P fn tmps R ds u w → Leaves P fn tmps' R ds u w
 | [], .returning, w, h => by unfold Leaves at *; rw [hr]; exact h
 | [], .panicking _, w, h => by unfold Leaves at *; exact h
 | [], .run, w, h => by unfold Leaves at *; exact h
 | d :: ds, u, w, h => by
  unfold Leaves at h ⊢
  obtain ⟨hu, fv, cap, f, args, ht, hi, hC⟩ := h
  refine ⟨hu, fv, cap, f, args, ht, hi, hC.mono ?_⟩
  intro e u' w' h'
  cases e with
  | returned v => exact leaves_put hr h'
  | panicked c => exact leaves_put hr h'
  | outgrown => exact h'
theorem C1.drew {w : World} {b : Nat} {v0 : Value} (h : C1 w b v0) : C1 w.drew b v0 := ⟨h.c0, h.fz, h.lt, h.one⟩
theorem res3 {w : World} {p q r : Nat} {x y z : Value} {tmps : Array Value} (h1 : C1 w p x) (h2 : C1 w q y) (h3 : C1 w r z) (t1 : tmps[2]? = some (.pointer (some ⟨p, 0, none⟩))) (t2 : tmps[3]? = some (.pointer (some ⟨q, 0, none⟩))) (t3 : tmps[4]? = some (.pointer (some ⟨r, 0, none⟩))) :
  (results Tryz.f39 tmps).run Tryz.prog w = .ok (.tuple #[x, y, z]) w := by
 obtain ⟨c0, cz, cl, _⟩ := h1
 obtain ⟨d0, dz, dl, _⟩ := h2
 obtain ⟨e0, ez, el, _⟩ := h3
 simp only [results, Tryz.results39]
 go_simp
def ParseOut (R : List IV × Int × Nat) (tX tK : TypeId) (w : World) (ε : Ending) (w' : World) : Prop := Below w.heap.size w w' ∧ ∃ A c, ε = .returned (.tuple #[.slice A R.1.length c, .int .i64 R.2.1, .int .i64 R.2.2]) ∧ XsOwn w' w.heap.size tX tK A c R.1
theorem size_setCell' (w : World) (p : Addr) (u : Value) : (w.setCell p u).heap.size = w.heap.size := by simp
theorem caught {w W : World} {p q r : Nat} {x y z : Value} {tmps cap dargs : Array Value} {fv : Fn} {tX tK : TypeId} {e : Int} {a : Nat} (h1 : C1 W p x) (h2 : C1 W q y) (h3 : C1 W r z) (n1 : p ≠ q) (n2 : p ≠ r) (n3 : q ≠ r) (l1 : w.heap.size ≤ p) (l2 : w.heap.size ≤ q) (l3 : w.heap.size ≤ r) (hb : Below w.heap.size w W)
  (t1 : tmps[2]? = some (.pointer (some ⟨p, 0, none⟩))) (t2 : tmps[3]? = some (.pointer (some ⟨q, 0, none⟩))) (t3 : tmps[4]? = some (.pointer (some ⟨r, 0, none⟩)))
  (hi : (invoke (.fn fv cap) dargs).run Tryz.prog W = .ok (.enter 91 #[.pointer (some ⟨p, 0, none⟩), .pointer (some ⟨q, 0, none⟩), .pointer (some ⟨r, 0, none⟩)]) W) :
  Leaves Tryz.prog Tryz.f39 tmps (ParseOut ([], e, a) tX tK w) [{ target := .fn fv cap, args := dargs }] (.panicking (flt e a)) W := by
 refine leaves_cons (by simp) hi ?_
 refine (catch_fault p q r e a x y z W h1.c0 h2.c0 h3.c0 h1.fz h2.fz h3.fz h1.lt h2.lt h3.lt n1 n2 n3).mono ?_
 rintro ε u' w' ⟨rfl, rfl, rfl⟩
 have k1 := (((h1.set0 (.slice none 0 0)).low (p := ⟨q, 0, none⟩) n1.symm (.int .i64 e)).low (p := ⟨r, 0, none⟩) n2.symm (.int .i64 a)).alloc (.cells #[.int .i64 e, .int .i64 a] 155)
 have k2 := (((h2.low (p := ⟨p, 0, none⟩) n1 (.slice none 0 0)).set0 (.int .i64 e)).low (p := ⟨r, 0, none⟩) n3.symm (.int .i64 a)).alloc (.cells #[.int .i64 e, .int .i64 a] 155)
 have k3 := (((h3.low (p := ⟨p, 0, none⟩) n2 (.slice none 0 0)).low (p := ⟨q, 0, none⟩) n3 (.int .i64 e)).set0 (.int .i64 a)).alloc (.cells #[.int .i64 e, .int .i64 a] 155)
 refine ⟨.tuple #[.slice none 0 0, .int .i64 e, .int .i64 a], res3 k1.drew k2.drew k3.drew t1 t2 t3, ?_, none, 0, rfl, XsOwn.nil _ _ _ _⟩
 have hz := hb.size
 ((with_reducible (repeat (first | exact bR _ _ | apply bS | apply bA | apply bD | refine bT ?_ (by assumption) ?_ | refine bO (by assumption) ?_ ?_))) <;> (first | omega | (simp <;> omega)))
theorem ended {w W : World} {p q r : Nat} {A : Option Addr} {c : Nat} {tmps cap dargs : Array Value} {fv : Fn} {tX tK : TypeId} {R : List IV × Int × Nat} (h1 : C1 W p (.slice A R.1.length c)) (h2 : C1 W q (.int .i64 R.2.1)) (h3 : C1 W r (.int .i64 R.2.2)) (hb : Below w.heap.size w W) (ho : XsOwn W w.heap.size tX tK A c R.1)
  (t1 : tmps[2]? = some (.pointer (some ⟨p, 0, none⟩))) (t2 : tmps[3]? = some (.pointer (some ⟨q, 0, none⟩))) (t3 : tmps[4]? = some (.pointer (some ⟨r, 0, none⟩)))
  (hi : (invoke (.fn fv cap) dargs).run Tryz.prog W = .ok (.enter 91 #[.pointer (some ⟨p, 0, none⟩), .pointer (some ⟨q, 0, none⟩), .pointer (some ⟨r, 0, none⟩)]) W) :
  Leaves Tryz.prog Tryz.f39 tmps (ParseOut R tX tK w) [{ target := .fn fv cap, args := dargs }] .returning W := by
 refine leaves_cons (by simp) hi ?_
 refine (catch_idle ⟨p, 0, none⟩ ⟨q, 0, none⟩ ⟨r, 0, none⟩ W).mono ?_
 rintro ε u' w' ⟨rfl, rfl, rfl⟩
 exact ⟨_, res3 h1 h2 h3 t1 t2 t3, hb, A, c, rfl, ho⟩
theorem res_put (tmps : Array Value) (v : Value) (k : Nat) (h : k ≠ 2 ∧ k ≠ 3 ∧ k ≠ 4) : results Tryz.f39 tmps = results Tryz.f39 (tmps.setIfInBounds k v) := by
 simp only [results, Tryz.results39]
 simp [Array.getElem?_setIfInBounds, h.1, h.2.1, h.2.2]
set_option maxRecDepth 100000 in
set_option maxHeartbeats 4000000 in
theorem parse_any (s : ByteArray) (w : World) (hm : s.size ≤ maxLen) (ht : Tabs w) : Calls Tryz.prog 39 #[.string s] w (ParseOut (parseR s) 97 120 w) := by
 have hmf : ∀ (fn : Fn) (first cap : Array Value) (w : World), (Instr.makeFunc fn first cap).run Tryz.prog w = .ok (.func fn first cap) w := fun _ _ _ _ => rfl
 have HT := hQ0 ht
 have h3 := ht.three
 have K := fun W => words_any s W hm
 have hL := scanR_len s
 have hP : parseR s = if (scanR s).2.1 ≠ 0 then ([], (scanR s).2.1, (scanR s).2.2) else parseF s.size ((scanR s).1.length + 1) [] (scanR s).1 := rfl
 obtain ⟨⟨L, er, pl⟩, hR⟩ : ∃ R, R = scanR s := ⟨_, rfl⟩
 rw [← hR] at K hL hP
 simp only at K hL hP
 clear hR ht
 have a1 := ((C1.new w (.slice none 0 0) 92).alloc (.cells #[.int .i64 0] 39)).alloc (.cells #[.int .i64 0] 3)
 have a2 := (C1.at (w.alloc (.cells #[.slice none 0 0] 92)) (w.heap.size + 1) (.int .i64 0) 39 (by simp)).alloc (.cells #[.int .i64 0] 3)
 have a3 := C1.at ((w.alloc (.cells #[.slice none 0 0] 92)).alloc (.cells #[.int .i64 0] 39)) (w.heap.size + 1 + 1) (.int .i64 0) 3 (by simp)
 have hb0 := (((Below.refl w.heap.size w).alloc (Nat.le_refl _) (.cells #[.slice none 0 0] 92)).alloc (by simp) (.cells #[.int .i64 0] 39)).alloc (by simp; omega) (.cells #[.int .i64 0] 3)
 by_cases her : er = 0
 · subst her
   rw [if_neg (by simp)] at hP
   obtain ⟨R, hR⟩ : ∃ R, R = parseR s := ⟨_, rfl⟩
   rw [← hR] at hP ⊢
   have HR := hQ0 hP
   clear hP hR
   go_enter_defers Tryz.func39, Tryz.ntmps39
   go_wp2_with (go_at_call 90; refine (K _).mono ?_; rintro e w1 ⟨hb1, v1, rfl, ho1⟩; obtain ⟨A1, c1, rfl⟩ := own_sl ho1; have B1 := hQ0 (a1.below hb1 (by simp; omega)); have B2 := hQ0 (a2.below hb1 (by simp)); have B3 := hQ0 (a3.below hb1 (by simp)); obtain ⟨d0, dz, dl, _⟩ := B1.out; obtain ⟨e0, ez, el, _⟩ := B2.out; obtain ⟨f0, fz, fl, _⟩ := B3.out)
   have hbw : Below w.heap.size w w1 := hb0.trans (hb1.mono (by simp; omega))
   have n1 : w.heap.size ≠ w.heap.size + 1 := by omega
   have n2 : w.heap.size ≠ w.heap.size + 1 + 1 := by omega
   have n3 : w.heap.size + 1 ≠ w.heap.size + 1 + 1 := by omega
   have ho2 := ownr_low (ownr_low ho1 (p := ⟨w.heap.size + 1, 0, none⟩) (by simp) (.int .i64 0)) (p := ⟨w.heap.size + 1 + 1, 0, none⟩) (by simp) (.int .i64 pl)
   have hws := own_wvat ho2
   have hcap : L.length ≤ c1 := by
    rcases Nat.eq_zero_or_pos L.length with h | h
    · omega
    · obtain ⟨g, _, _, _, hc, _⟩ := own_cells ho2 h; exact hc
   have hrd := RdAt.new (t := 158) (e := s.size) hws (Nat.le_refl _) hcap rfl
   have k1 := ((B1.out.low (p := ⟨w.heap.size + 1, 0, none⟩) n1.symm (.int .i64 0)).low (p := ⟨w.heap.size + 1 + 1, 0, none⟩) n2.symm (.int .i64 pl)).alloc (.cells #[.slice A1 L.length c1, .int .i64 s.size] 158)
   have k2 := ((B2.out.set0 (.int .i64 0)).low (p := ⟨w.heap.size + 1 + 1, 0, none⟩) n3.symm (.int .i64 pl)).alloc (.cells #[.slice A1 L.length c1, .int .i64 s.size] 158)
   have k3 := ((B3.out.low (p := ⟨w.heap.size + 1, 0, none⟩) n3 (.int .i64 0)).set0 (.int .i64 pl)).alloc (.cells #[.slice A1 L.length c1, .int .i64 s.size] 158)
   have hz1 := hbw.size
   have hbl : Below w.heap.size w (((w1.setCell ⟨w.heap.size + 1, 0, none⟩ (.int .i64 0)).setCell ⟨w.heap.size + 1 + 1, 0, none⟩ (.int .i64 pl)).alloc (.cells #[.slice A1 L.length c1, .int .i64 s.size] 158)) := by
    ((with_reducible (repeat (first | exact bR _ _ | apply bS | apply bA | apply bD | refine bT ?_ (by assumption) ?_ | refine bO (by assumption) ?_ ?_))) <;> (first | omega | (simp <;> omega)))
   have HTl := hQ0 (HT.out.below hbl h3)
   obtain ⟨RB, hRB⟩ : ∃ RB, RB = w1.heap.size := ⟨_, rfl⟩
   simp only [size_setCell'] at hrd
   rw [← hRB] at hrd ⊢
   have hlt : w.heap.size + 3 ≤ RB := by omega
   clear B1 B2 B3 hRB hws ho2 ho1 hb1 hbw hz1 d0 dz dl e0 ez el f0 fz fl a1 a2 a3 hb0 hcap HT
   go_loopg [] (L.length + 1) (fun gk wr => ∃ (l : List WV) (A : Option Addr) (c : Nat) (acc : List IV) (B : Option Addr) (d f : Nat), l.length < gk ∧ l.length < f ∧ l.length ≤ 20000 ∧ acc.length ≤ 400 ∧ Below w.heap.size w wr ∧ C1 wr w.heap.size (.slice B acc.length d) ∧ C1 wr (w.heap.size + 1) (.int .i64 0) ∧ C1 wr (w.heap.size + 1 + 1) (.int .i64 pl) ∧ Hid (XsOwn wr (RB + 1) 97 120 B d acc) ∧ RdAt wr RB RB A l s.size c ∧ Hid (R = parseF s.size f acc l) ∧ Hid (Tabs wr))
   case atStart => exact ⟨L, A1, c1, [], none, 0, L.length + 1, by omega, by omega, hL, by simp, hbl, k1, k2, k3, hQ0 (XsOwn.nil _ _ _ _), hrd, HR, HTl⟩
   case round =>
    clear k1 k2 k3 hbl hrd HR HTl
    obtain ⟨l, A, c, acc, B, d, f, hlk, hlf, hll, hac, hbr, k1, k2, k3, HO, hr, HJ, HTr⟩ := hrel
    have hr0 := hr.lt
    obtain ⟨f, rfl⟩ : ∃ g, f = g + 1 := ⟨f - 1, by omega⟩
    have K1 := hQ0 k1
    have K2 := hQ0 k2
    have K3 := hQ0 k3
    have HRD := hQ0 hr
    obtain ⟨d0, dz, dl, _⟩ := k1
    obtain ⟨e0, ez, el, _⟩ := k2
    obtain ⟨f0, fz, fl, _⟩ := k3
    obtain ⟨r0, r1, rz, rl, rn, rc, rw'⟩ := hr
    clear rw'
    cases l with
    | nil =>
     simp only [List.length_nil] at r0
     obtain rfl : R = (acc, 0, 0) := HJ.out
     go_wp2_with fail
     simp only [bodyPostD]
     refine ended (R := (acc, 0, 0)) (((K1.out.set0 _).low (p := ⟨w.heap.size + 1, 0, none⟩) n1.symm _).low (p := ⟨w.heap.size + 1 + 1, 0, none⟩) n2.symm _) (((K2.out.low (p := ⟨w.heap.size, 0, none⟩) n1 _).set0 _).low (p := ⟨w.heap.size + 1 + 1, 0, none⟩) n3.symm _) (((K3.out.low (p := ⟨w.heap.size, 0, none⟩) n2 _).low (p := ⟨w.heap.size + 1, 0, none⟩) n3 _).set0 _) ?_ ((((HO.out.low (p := ⟨w.heap.size, 0, none⟩) (by show w.heap.size < _; omega) _).low (p := ⟨w.heap.size + 1, 0, none⟩) (by show w.heap.size + 1 < _; omega) _).low (p := ⟨w.heap.size + 1 + 1, 0, none⟩) (by show w.heap.size + 1 + 1 < _; omega) _).weaker (by omega)) rfl rfl rfl (by simp [go_sem])
     have hzr := hbr.size
     ((with_reducible (repeat (first | exact bR _ _ | apply bS | apply bA | apply bD | refine bT ?_ (by assumption) ?_ | refine bO (by assumption) ?_ ?_))) <;> (first | omega | (simp <;> omega)))
    | cons x l =>
     simp only [List.length_cons] at r0 hlk hlf hll
     have i1 : (0 : Int) < ((l.length + 1 : Nat) : Int) := by omega
     by_cases h4 : acc.length = 400
     · obtain rfl : R = ([], 9, x.at_) := by rw [HJ.out]; simp only [parseF]; rw [if_pos h4]
       go_wp2_with (go_at_call 92; refine (rdat_any _ _ _ _ _ _ _ HRD.out).mono ?_; rintro e w3 ⟨rfl, rfl⟩)
       simp only [bodyPostD]
       exact caught K1.out K2.out K3.out n1 n2 n3 (Nat.le_refl _) (by omega) (by omega) hbr rfl rfl rfl (by simp [go_sem])
     · have h4' : ¬ (acc.length : Int) = 400 := by omega
       cases hI : itemF s.size (x :: l) with
       | err a b =>
        obtain rfl : R = ([], a, b) := by rw [HJ.out]; simp only [parseF]; rw [if_neg h4, hI]
        go_wp2_with fail
        have hS0 : C1 wr.drew w.heap.size (.slice B acc.length d) := K1.out.drew
        refine wp_region_Z (fun W => C1 W w.heap.size (.slice B acc.length d)) 4 [4, 5] (by kernel_rfl) (by kernel_rfl) ?_
        refine wpZ_step (i := 0) rfl (by kernel_rfl) rfl (.slice B acc.length d) (fun c a w h => leaves_put (res_put _ _ 36 (by decide)) h) (by assumption) (fun W hW => by obtain ⟨s0, sz, sl, _⟩ := hW; go_simp) (fun K hK => ?_); go_simp; apply hK; clear hK K
        refine wpZ_step (i := 1) rfl (by kernel_rfl) rfl (.pointer (some ⟨RB, 0, none⟩)) (fun c a w h => leaves_put (res_put _ _ 37 (by decide)) h) (by assumption) (fun W hW => by obtain ⟨s0, sz, sl, _⟩ := hW; go_simp) (fun K hK => ?_); go_simp; apply hK; clear hK K
        refine wpZ_one (i := 2) rfl (by kernel_rfl) rfl (fun K hK => ?_)
        go_simp
        (go_at_call 93; refine (item_any _ _ _ _ _ _ _ HRD.out.drew (HTr.out.below ((Below.refl wr.heap.size wr).drew) (by omega)) (by omega) (by simp only [List.length_cons]; omega)).mono ?_; rintro e w6 ⟨hb6, hq⟩; rw [hI] at hq; obtain rfl := hq)
        exact caught (K1.out.but hb6.of_drew (by omega)) (K2.out.but hb6.of_drew (by omega)) (K3.out.but hb6.of_drew (by omega)) n1 n2 n3 (Nat.le_refl _) (by omega) (by omega) (hbr.trans (hb6.of_drew.toBelow (by omega) hbr.size)) rfl rfl rfl (by simp [go_sem])
       | ok y l' =>
        have HJ2 : Hid (R = parseF s.size f (acc ++ [y]) l') := hQ0 (by rw [HJ.out]; simp only [parseF]; rw [if_neg h4, hI])
        have hlen := itemF_len hI
        simp only [List.length_cons] at hlen
        go_wp2_with fail
        have hS0 : C1 wr.drew w.heap.size (.slice B acc.length d) := K1.out.drew
        refine wp_region_Z (fun W => C1 W w.heap.size (.slice B acc.length d)) 4 [4, 5] (by kernel_rfl) (by kernel_rfl) ?_
        refine wpZ_step (i := 0) rfl (by kernel_rfl) rfl (.slice B acc.length d) (fun c a w h => leaves_put (res_put _ _ 36 (by decide)) h) (by assumption) (fun W hW => by obtain ⟨s0, sz, sl, _⟩ := hW; go_simp) (fun K hK => ?_); go_simp; apply hK; clear hK K
        refine wpZ_step (i := 1) rfl (by kernel_rfl) rfl (.pointer (some ⟨RB, 0, none⟩)) (fun c a w h => leaves_put (res_put _ _ 37 (by decide)) h) (by assumption) (fun W hW => by obtain ⟨s0, sz, sl, _⟩ := hW; go_simp) (fun K hK => ?_); go_simp; apply hK; clear hK K
        refine wpZ_one (i := 2) rfl (by kernel_rfl) rfl (fun K hK => ?_)
        go_simp
        (go_at_call 93; refine (item_any _ _ _ _ _ _ _ HRD.out.drew (HTr.out.below ((Below.refl wr.heap.size wr).drew) (by omega)) (by omega) (by simp only [List.length_cons]; omega)).mono ?_; rintro e w6 ⟨hb6, hq⟩; rw [hI] at hq; obtain ⟨B', d', A6, c6, rfl, ho6, h6⟩ := hq; simp only [vOfX])
        replace hb6 := hb6.of_drew
        have g1 := K1.out.but hb6 (by omega)
        have g2 := K2.out.but hb6 (by omega)
        have g3 := K3.out.but hb6 (by omega)
        have HT6 := hQ0 (HTr.out.but hb6 (by omega))
        have hO6 := HO.out.but hb6 (by omega)
        have hz6 := hb6.size
        have ho6' := ho6.weaker (base' := RB + 1) (by show RB + 1 ≤ wr.heap.size; omega)
        have hbl6 := hbr.trans (hb6.toBelow (B := w.heap.size) (by omega) hbr.size)
        refine ⟨g1, hK _ _ ?_⟩
        clear hK K hS0 ho6
        refine wpZ_one (i := 3) rfl (by kernel_rfl) rfl (fun K hK => ?_)
        go_simp
        refine ⟨g1.alloc _, hK _ _ ?_⟩
        clear hK K
        refine wpZ_nil (by kernel_rfl) ?_
        simp only [List.filterMap_cons, List.filterMap_nil, List.getElem?_cons_succ, List.getElem?_cons_zero]
        have hbe := (Below.refl w6.heap.size w6).alloc (Nat.le_refl _) (.cells #[.string y.word, .string y.name, .slice B' y.keys.length d', .int .i64 y.at_] 97)
        obtain ⟨xs, hxs, hmore⟩ := (hO6.below hbe (Nat.le_refl _)).more (by decide) (by decide)
        have hfr := own_fresh hxs
        refine wpList_append_one rfl _ _ 92 97 _ 4 64 rfl Tryz.underlying92 itemInfo rfl (by decide) (by decide) (RB + 1) (.slice B acc.length d) acc.length xs (cellsOfX y B' d') rfl hxs w6.heap.size 1 rfl rfl (C4.new w6 _ _ _ _ _).cells (by simp [cellsOfX, Value.oneCell']) (by omega) (by simp; omega) ?_
        intro v7 w7 ho7 hg7 _
        obtain ⟨B7, d7, rfl, hx7⟩ := hmore y B' d' v7 w7 (ho6'.below hbe (Nat.le_refl _)) ho7 hg7
        have q1 := (g1.alloc (.cells #[.string y.word, .string y.name, .slice B' y.keys.length d', .int .i64 y.at_] 97)).grown hg7 hfr (by omega)
        have q2 := (g2.alloc (.cells #[.string y.word, .string y.name, .slice B' y.keys.length d', .int .i64 y.at_] 97)).grown hg7 hfr (by omega)
        have q3 := (g3.alloc (.cells #[.string y.word, .string y.name, .slice B' y.keys.length d', .int .i64 y.at_] 97)).grown hg7 hfr (by omega)
        have h7 := (h6.alloc (.cells #[.string y.word, .string y.name, .slice B' y.keys.length d', .int .i64 y.at_] 97)).grown hg7 (fun k hk => by have := hfr k hk; omega)
        have hb7 := (hbl6.alloc hbl6.size (.cells #[.string y.word, .string y.name, .slice B' y.keys.length d', .int .i64 y.at_] 97)).grown hg7 (by have := hbl6.size; simp; omega) (fun k hk => by have := hfr k hk; omega)
        have HT7 := hQ0 ((HT6.out.alloc (.cells #[.string y.word, .string y.name, .slice B' y.keys.length d', .int .i64 y.at_] 97)).grown hg7 (fun k hk => by have := hfr k hk; omega))
        have HX7 := hQ0 hx7
        have Q1 := hQ0 q1
        obtain ⟨s0, sz, sl, _⟩ := q1
        clear hxs hmore hfr hbe g1 g2 g3 hO6 ho6' ho7 hg7 hx7
        go_simp
        go_wp2_with fail
        go_roundg (l.length + 1)
        case measure => omega
        case rel => exact ⟨l', A6, c6, acc ++ [y], B7, d7, f, by omega, by omega, by omega, by simp only [List.length_append, List.length_cons, List.length_nil]; omega, by have hz7 := hb7.size; ((with_reducible (repeat (first | exact bR _ _ | apply bS | apply bA | apply bD | refine bT ?_ (by assumption) ?_ | refine bO (by assumption) ?_ ?_))) <;> (first | omega | (simp <;> omega))), by simpa using Q1.out.set0 _, q2.low (by show w.heap.size ≠ _; omega) _, q3.low (by show w.heap.size ≠ _; omega) _, hQ0 (HX7.out.low (by show w.heap.size < _; omega) _), h7.set_one Q1.out (by omega) _, HJ2, hQ0 (HT7.out.set (by show 3 ≤ w.heap.size; omega) _)⟩
 · rw [if_pos her] at hP
   rw [hP]
   clear hP
   go_enter_defers Tryz.func39, Tryz.ntmps39
   go_wp2_with (go_at_call 90; refine (K _).mono ?_; rintro e w1 ⟨hb1, v1, rfl, ho1⟩; have B1 := hQ0 (a1.below hb1 (by simp; omega)); have B2 := hQ0 (a2.below hb1 (by simp)); have B3 := hQ0 (a3.below hb1 (by simp)); obtain ⟨d0, dz, dl, _⟩ := B1.out; obtain ⟨e0, ez, el, _⟩ := B2.out; obtain ⟨f0, fz, fl, _⟩ := B3.out)
   go_region
   have hbw : Below w.heap.size w w1 := hb0.trans (hb1.mono (by simp; omega))
   go_wp2_with fail
   have n1 : w.heap.size ≠ w.heap.size + 1 := by omega
   have n2 : w.heap.size ≠ w.heap.size + 1 + 1 := by omega
   have n3 : w.heap.size + 1 ≠ w.heap.size + 1 + 1 := by omega
   have k1 := ((((B1.out.low (p := ⟨w.heap.size + 1, 0, none⟩) n1.symm (.int .i64 er)).low (p := ⟨w.heap.size + 1 + 1, 0, none⟩) n2.symm (.int .i64 pl)).set0 (.slice none 0 0)).low (p := ⟨w.heap.size + 1, 0, none⟩) n1.symm (.int .i64 er)).low (p := ⟨w.heap.size + 1 + 1, 0, none⟩) n2.symm (.int .i64 pl)
   have k2 := ((((B2.out.set0 (.int .i64 er)).low (p := ⟨w.heap.size + 1 + 1, 0, none⟩) n3.symm (.int .i64 pl)).low (p := ⟨w.heap.size, 0, none⟩) n1 (.slice none 0 0)).set0 (.int .i64 er)).low (p := ⟨w.heap.size + 1 + 1, 0, none⟩) n3.symm (.int .i64 pl)
   have k3 := ((((B3.out.low (p := ⟨w.heap.size + 1, 0, none⟩) n3 (.int .i64 er)).set0 (.int .i64 pl)).low (p := ⟨w.heap.size, 0, none⟩) n2 (.slice none 0 0)).low (p := ⟨w.heap.size + 1, 0, none⟩) n3 (.int .i64 er)).set0 (.int .i64 pl)
   simp only [bodyPostD, Leaves]
   refine ⟨.tuple #[.slice none 0 0, .int .i64 er, .int .i64 pl], res3 k1.drew k2.drew k3.drew rfl rfl rfl, ?_, none, 0, rfl, XsOwn.nil _ _ _ _⟩
   ((with_reducible (repeat (first | exact bR _ _ | apply bS | apply bA | apply bD | refine bT ?_ (by assumption) ?_ | refine bO (by assumption) ?_ ?_))) <;> (first | omega | (simp <;> omega)))
theorem bInfo : (Tryz.prog.info? 191).map (·.size) = some 2 := by kernel_rfl
theorem bLies : liesAt Tryz.prog Tryz.prog.depth 191 (2 / Tryz.prog.cellsOf 191) 0 191 1 = true := by kernel_rfl
theorem byteInfo : (Tryz.prog.info? 5).map (fun i => (i.zero, i.size, i.bytes)) = some (some (.int .u8 0), 1, 1) := by kernel_rfl
set_option maxHeartbeats 1000000 in
set_option maxRecDepth 100000 in
theorem cc_used (b : Nat) (w : World) (h0 : w.cell? ⟨b, 0, none⟩ = some (.pointer (some ⟨b, 0, none⟩))) :
  Calls Tryz.prog 165 #[.pointer (some ⟨b, 0, none⟩)] w fun e w' => e = .returned (.tuple #[]) ∧ w' = w := by
 obtain ⟨j, hj, hjs⟩ := Option.map_eq_some_iff.1 bInfo
 go_enter Tryz.func165, Tryz.ntmps165; (try simp only [List.append_eq, List.cons_append, List.nil_append])
 go_wp2
 rw [Lib.run_neq_ptr_same w _ Tryz.underlying189 hj]
 go_wp2
 go_end0
 exact ⟨rfl, rfl⟩
set_option maxHeartbeats 1000000 in
set_option maxRecDepth 100000 in
theorem cc_fresh (b : Nat) (w : World) (h0 : w.cell? ⟨b, 0, none⟩ = some (.pointer none)) (hsh : w.shape? b = some (191, 2)) (hfz : w.frozen? ⟨b, 0, none⟩ = false) :
  Calls Tryz.prog 165 #[.pointer (some ⟨b, 0, none⟩)] w fun e w' => e = .returned (.tuple #[]) ∧ w' = w.setCell ⟨b, 0, none⟩ (.pointer (some ⟨b, 0, none⟩)) := by
 obtain ⟨j, hj, hjs⟩ := Option.map_eq_some_iff.1 bInfo
 go_enter Tryz.func165, Tryz.ntmps165; (try simp only [List.append_eq, List.cons_append, List.nil_append])
 go_wp2
 rw [Lib.run_to_unsafe w ⟨b, 0, none⟩ Tryz.underlying189 Tryz.underlying275 hj (by rw [hjs]; decide) hsh (Nat.zero_lt_succ 1)]
 simp only [Result.andThen]
 rw [Oper.upon_value]
 go_wp2
 rw [run_callFunc_extern Tryz.func187 (by kernel_rfl) (by kernel_rfl) (by kernel_rfl) (e := Extern.AbiNoEscape.same) (by kernel_rfl)]
 rw [Lib.run_noEscape]
 simp only [Result.andThen]
 rw [Oper.upon_value]
 go_wp2
 rw [Lib.run_from_unsafe w ⟨b, 0, none⟩ Tryz.underlying275 Tryz.underlying189 hj hsh bLies]
 simp only [Result.andThen]
 rw [Oper.upon_value]
 go_wp2
 go_end0
 exact ⟨rfl, rfl⟩
def Kept (b : Nat) (w w' : World) : Prop := ∀ (k : Nat) (cs : Array Value) (t : TypeId) (f : Nat × Nat), k ≠ b → t ≠ 5 → w.heap[k]? = some (.cells cs t f) → w'.heap[k]? = some (.cells cs t f)
theorem Kept.refl (b : Nat) (w : World) : Kept b w w := fun _ _ _ _ _ _ h => h
theorem Kept.trans {b : Nat} {x y z : World} (h : Kept b x y) (g : Kept b y z) : Kept b x z := fun k cs t f h1 h2 h3 => g k cs t f h1 h2 (h k cs t f h1 h2 h3)
theorem Kept.set (b : Nat) (w : World) (o : Nat) (u : Value) : Kept b w (w.setCell ⟨b, o, none⟩ u) := fun k cs t f h1 _ h3 => by
 rw [Below.heap_setCell _ _ _ _ (by show k ≠ b; exact h1)]; exact h3
theorem Kept.grown {b base n : Nat} {w w' : World} {v : Value} {xs : List Value} (h : w.ownsRow base 5 1 v n xs) (hg : w.grownBy w' v.ownBlock) : Kept b w w' := fun k cs t f h1 h2 h3 => by
 rw [hg.block k (Array.getElem?_eq_some_iff.1 h3).1 ?_]
 · exact h3
 · intro e
   rcases h.2 with ⟨rfl, _⟩ | ⟨g, cap, cur, rfl, _, hh, _⟩
   · simp [Value.ownBlock] at e
   · simp only [Value.ownBlock, Option.some.injEq] at e
     subst e
     rw [hh] at h3
     simp only [Option.some.injEq, Obj.cells.injEq] at h3
     exact h2 h3.2.1.symm
theorem copycheck_any (B b : Nat) (bs : List Value) (w : World) (h : Lib.IsBuilder 191 5 B b bs w) :
  Calls Tryz.prog 165 #[.pointer (some ⟨b, 0, none⟩)] w fun e w' => e = .returned (.tuple #[]) ∧ Lib.BuilderAt 191 5 B b (.pointer (some ⟨b, 0, none⟩)) bs w' ∧ Below B w w' ∧ Kept b w w' := by
 rcases h with h | h
 · refine (cc_fresh b w h.cell0 h.shape h.frozen0).mono ?_
   rintro e w' ⟨rfl, rfl⟩
   exact ⟨rfl, h.used _, (Below.refl B w).setCell (p := ⟨b, 0, none⟩) h.1 _, Kept.set _ _ _ _⟩
 · refine (cc_used b w h.cell0).mono ?_
   rintro e w' ⟨rfl, rfl⟩
   exact ⟨rfl, h, Below.refl B _, Kept.refl _ _⟩
set_option maxHeartbeats 1000000 in
set_option maxRecDepth 100000 in
theorem writes_any (B b : Nat) (bs : List Value) (s : ByteArray) (w : World) (h : Lib.IsBuilder 191 5 B b bs w) (hlen : bs.length + s.size ≤ 140737488355328) (hBw : B ≤ w.heap.size) :
  Calls Tryz.prog 114 #[.pointer (some ⟨b, 0, none⟩), .string s] w fun e w' => e = .returned (.tuple #[.int .i64 s.size, .nilIface]) ∧ Lib.IsBuilder 191 5 B b (bs ++ Lib.strCells s) w' ∧ Below B w w' ∧ Kept b w w' := by
 obtain ⟨i0, hi, hz0, hz1, hz2⟩ := info_parts byteInfo
 go_enter Tryz.func114, Tryz.ntmps114; (try simp only [List.append_eq, List.cons_append, List.nil_append])
 go_wp2_with (first | (go_at_call 165; refine (copycheck_any B b bs _ h).mono ?_; rintro e w1 ⟨rfl, h1, hb1, hk1⟩; obtain ⟨hB, v, hbk, hown, hne⟩ := h1; have c0 : w1.cell? ⟨b, 0, none⟩ = some (.pointer (some ⟨b, 0, none⟩)) := (by rw [Lib.cell_of_heap hbk]; rfl); have c1 : w1.cell? ⟨b, 1, none⟩ = some v := (by rw [Lib.cell_of_heap hbk]; rfl)) | (at_builtin; go_must (refine Lib.wpList_append_own_string _ rfl _ _ 51 9 rfl B 5 i0 Tryz.underlying51 Tryz.underlying9 hi hz0 hz1 hz2 _ _ _ rfl hown s rfl (by unfold maxLen; omega) (by omega) (by have := hb1.size; omega) ?_)))
 intro v' w2 hown' hgrow _
 have hlt : b < w1.heap.size := (Array.getElem?_eq_some_iff.1 hbk).1
 have hb2 : w2.heap[b]? = some (.cells #[.pointer (some ⟨b, 0, none⟩), v] 191 (0, 0)) := by
  rw [hgrow.block b hlt (fun e => hne e.symm)]
  exact hbk
 have d0 : w2.cell? ⟨b, 0, none⟩ = some (.pointer (some ⟨b, 0, none⟩)) := by rw [Lib.cell_of_heap hb2]; rfl
 have d1 : w2.cell? ⟨b, 1, none⟩ = some v := by rw [Lib.cell_of_heap hb2]; rfl
 have f1 : w2.frozen? ⟨b, 1, none⟩ = false := Lib.frozen_of_heap hb2 1
 obtain ⟨ao, cap, rfl⟩ := own_sl hown'
 go_wp2
 go_ret2
 refine ⟨rfl, .inr ?_, ?_, (hk1.trans (Kept.grown hown hgrow)).trans (Kept.set _ _ _ _)⟩
 · exact Lib.BuilderAt.put (T := 191) (e := 5) hB hb2 (bs' := bs ++ Lib.strCells s) (by simpa [Lib.strCells_length] using hown') (by decide)
 · exact (hb1.grown hgrow (by have := hb1.size; omega) (fun k hk => (hown.lt k hk).1)).setCell (p := ⟨b, 1, none⟩) hB _
end Go.Proofs.YtbpcjpiaimdpnaaGreatDoor
