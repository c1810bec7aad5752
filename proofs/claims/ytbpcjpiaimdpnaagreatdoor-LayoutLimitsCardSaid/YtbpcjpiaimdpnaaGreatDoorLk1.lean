/- Merged texts: Warm Tb Draw DrawTwo DrawR DrawZ DrawM LcA ScanSpec ScanW ScanN LcM LcB LcS Pick LcV LcOw LdT Fr DrawN DrawO SeqY Lpws (what no proof of the claim needs is left out). -/
import Derived.StillTail
import Derived.StillTactics
import Derived.Below
import Derived.Laws.Rows
import Derived.Lib.Hide
import Derived.BigCall
import Derived.BigFrame
import Derived.Test.YtbpcjpiaimdpnaaGreatDoorProg
import Derived.Deep.LoopGhost
import Derived.Laws.Unary
import Derived.RegionTactic
import Derived.WalkKit
import Derived.WalkSpells
import Derived.WalkLawsBesides
import Derived.Outline
import Derived.Laws.RangeString
import Derived.Laws.RangeAny
import Derived.LoopTactic
import Derived.WideShapes
import Derived.StringKeys
import Derived.Maps.Own
import Derived.Maps.Views
import Derived.Deep.Cut
import Derived.Deep.MidRow
set_option linter.unusedSimpArgs false
set_option linter.unusedVariables false
namespace Go.Proofs.YtbpcjpiaimdpnaaGreatDoor
open Go Go.RowKit
section
open Go Go.RowKit
theorem zA {α : Type} {l : List α} {i : Nat} {o : Option α} (h : l[i]? = o) : l.toArray[i]? = o := List.getElem?_toArray.trans h
theorem zB {α : Type} {a : α} {l : List α} : (a :: l)[0]? = some a := List.getElem?_cons_zero
theorem zC {α : Type} {a : α} {l : List α} {i : Nat} {o : Option α} (h : l[i]? = o) : (a :: l)[i + 1]? = o := List.getElem?_cons_succ.trans h
theorem hQ0 {p : Prop} (h : p) : RowKit.Hid p := Lib.hid h
theorem bB {v : Value} (w : World) : v = v ∧ Below w.heap.size w w := ⟨rfl, Below.refl _ _⟩
end
section
variable {P : Program} {ops : Array Oper} {md : Region.Mode} {S : World → Prop}
def givesUpon (P : Program) (S : World → Prop) (v : Value) : Result Next → Prop
  | .ok (.value u) w' => u = v ∧ S w'
  | .ok .skip w' => v = undef ∧ S w'
  | .ok (.enter f args) w' => Calls P f args w' (fun e w'' => e = .returned v ∧ S w'')
  | _ => False
theorem givesUpon_value (v u : Value) (w : World) : givesUpon P S v (.ok (.value u) w) = (u = v ∧ S w) := rfl
theorem givesUpon_skip (v : Value) (w : World) : givesUpon P S v (.ok .skip w) = (v = undef ∧ S w) := rfl
theorem givesUpon_enter (v : Value) (f : FuncId) (args : Array Value) (w : World) : givesUpon P S v (.ok (.enter f args) w) = Calls P f args w (fun e w'' => e = .returned v ∧ S w'') := rfl
def gives (P : Program) (S : World → Prop) (o : Oper) (a : Act) (v : Value) : Prop := ∀ w, S w → givesUpon P S v ((execOp a.eval o).run P w)
def YieldsIn (P : Program) (ops : Array Oper) (S : World → Prop) (o : Oper) (v : Value) (a : Act) : Prop :=
  (Region.wanted o (yielded ops a.tmps) = true ∧ gives P S o a v) ∨ (Region.wanted o (yielded ops a.tmps) = false ∧ v = undef)
theorem YieldsIn.of_same {o : Oper} {v : Value} {a a' : Act} (hy : YieldsIn P ops S o v a) (he : execOp a'.eval o = execOp a.eval o)
  (hw : Region.wanted o (yielded ops a'.tmps) = Region.wanted o (yielded ops a.tmps)) : YieldsIn P ops S o v a' := by
 unfold YieldsIn gives at *
 rw [he, hw]
 exact hy
theorem bcell {W w1 : World} {B : Nat} (hb : Below B W w1) : (∀ b o, b < B → w1.cell? ⟨b, o, none⟩ = W.cell? ⟨b, o, none⟩) ∧ (∀ b o, b < B → w1.frozen? ⟨b, o, none⟩ = W.frozen? ⟨b, o, none⟩) :=
 ⟨fun b o h => hb.cell (p := ⟨b, o, none⟩) h, fun b o h => hb.frozen (p := ⟨b, o, none⟩) h⟩
def Own (N : Nat) (W W' : World) : Prop := N ≤ W'.heap.size ∧ Below N W W'
theorem Own.refl {N : Nat} {W : World} (h : N ≤ W.heap.size) : Own N W W := ⟨h, Below.refl _ _⟩
theorem Own.drew {N : Nat} {W W' : World} (h : Own N W W') : Own N W W'.drew := ⟨h.1, h.2.drew⟩
theorem Own.call {N : Nat} {W W1 W2 : World} (h : Own N W W1) (hb : Below W1.heap.size W1 W2) : Own N W W2 := ⟨Nat.le_trans h.1 hb.size, h.2.trans (hb.mono h.1)⟩
theorem Own.first {N : Nat} {W W1 : World} (h : N ≤ W.heap.size) (hb : Below W.heap.size W W1) : Own N W W1 := (Own.refl h).call hb
theorem Own.trans {N : Nat} {W W1 W2 : World} (h : Own N W W1) (h' : Own N W1 W2) : Own N W W2 := ⟨h'.1, h.2.trans h'.2⟩
theorem Own.setCell {N : Nat} {W W1 : World} (h : Own N W W1) {p : Addr} (hp : N ≤ p.block) (u : Value) : Own N W (W1.setCell p u) := ⟨by simpa [World.setCell] using h.1, h.2.setCell hp u⟩
theorem Own.alloc {N : Nat} {W W1 : World} (h : Own N W W1) (o : Obj) : Own N W (W1.alloc o) := ⟨Nat.le_trans h.1 (by simp), h.2.alloc h.1 o⟩
theorem Own.cells {N : Nat} {W W1 : World} (h : Own N W W1) : (∀ b o, b < N → W1.cell? ⟨b, o, none⟩ = W.cell? ⟨b, o, none⟩) ∧ (∀ b o, b < N → W1.frozen? ⟨b, o, none⟩ = W.frozen? ⟨b, o, none⟩) := bcell h.2
theorem Own.below {N B : Nat} {w W W1 : World} (h : Own N W W1) (hb : Below B w W) (hB : B ≤ N) : Below B w W1 := hb.trans (h.2.mono hB)
end
attribute [go_sem] givesUpon_value givesUpon_skip givesUpon_enter
set_option linter.unusedVariables false
theorem cel2 {G : Prop} {N b : Nat} {W w : World} {v0 v1 : Value} (hb : Below N W w) (h1 : b < N) (h2 : b < w.heap.size) (c0 : W.cell? ⟨b, 0, none⟩ = some v0) (c1 : W.cell? ⟨b, 1, none⟩ = some v1) (hf : ∀ o, W.frozen? ⟨b, o, none⟩ = false) (k : w.cell? ⟨b, 0, none⟩ = some v0 → w.cell? ⟨b, 1, none⟩ = some v1 → (∀ o, w.frozen? ⟨b, o, none⟩ = false) → (b < w.heap.size ∧ b < w.heap.size + 1 ∧ b < w.heap.size + 1 + 1 ∧ b < w.heap.size + 1 + 1 + 1) → G) : G :=
 k (by rw [hb.cell (p := ⟨b, 0, none⟩) h1]; exact c0) (by rw [hb.cell (p := ⟨b, 1, none⟩) h1]; exact c1) (fun o => by rw [hb.frozen (p := ⟨b, o, none⟩) h1]; exact hf o) ⟨h2, by omega, by omega, by omega⟩
theorem bR (B : Nat) (w : World) : Below B w w := Below.refl B w
theorem bS {B : Nat} {a w : World} {p : Addr} (h : Below B a w) (hp : B ≤ p.block) (u : Value) : Below B a (w.setCell p u) := h.setCell hp u
theorem bA {B : Nat} {a w : World} (h : Below B a w) (hB : B ≤ w.heap.size) (o : Obj) : Below B a (w.alloc o) := h.alloc hB o
theorem bD {B : Nat} {a w : World} (h : Below B a w) : Below B a w.drew := h.drew
theorem bT {N M : Nat} {a b c : World} (h : Below N a b) (k : Below M b c) (hN : N ≤ M) : Below N a c := h.trans (k.mono hN)
theorem bO {N B : Nat} {w W W1 : World} (h : Own N W W1) (hb : Below B w W) (hB : B ≤ N) : Below B w W1 := h.below hb hB
end Go.Proofs.YtbpcjpiaimdpnaaGreatDoor
namespace Go.Proofs.YtbpcjpiaimdpnaaGreatDoor
open Go Go.RowKit
set_option linter.unusedVariables false
def RowsAt {α : Type} (n : Nat) (f : α → List Value) (w : World) (A : Option Addr) (l : List α) : Prop := ∀ k x, l[k]? = some x → ∃ g o, A = some ⟨g, o, none⟩ ∧ g < w.heap.size ∧ ∀ j u, (f x)[j]? = some u → w.cell? ⟨g, o + (k * n + j), none⟩ = some u
section
variable {α : Type} {n : Nat} {f : α → List Value} {w w1 : World} {A : Option Addr} {l : List α}
theorem RowsAt.nil : RowsAt n f w A [] := fun k x h => by simp at h
theorem RowsAt.below {B : Nat} (h : RowsAt n f w A l) (hb : Below B w w1) (hB : w.heap.size ≤ B) : RowsAt n f w1 A l := fun k x hx => by
 obtain ⟨g, o, hA, hg, hc⟩ := h k x hx
 exact ⟨g, o, hA, Nat.lt_of_lt_of_le hg hb.size, fun j u hu => (hb.cell (p := ⟨g, o + (k * n + j), none⟩) (Nat.lt_of_lt_of_le hg hB)).trans (hc j u hu)⟩
end
structure Wl where
  nm : ByteArray
  kd : Int
  lv : Int
  a1 : Int
  a2 : Int
  b1 : Int
  b2 : Int
  rs : Int
  gr : Int
  kk : Int
  mn : Int
  cl : Int
  sw : Int
def Wl.cells (x : Wl) : List Value := [.string x.nm, .int .i64 x.kd, .int .i64 x.lv, .int .i64 x.a1, .int .i64 x.a2, .int .i64 x.b1, .int .i64 x.b2, .int .i64 x.rs, .int .i64 x.gr, .int .i64 x.kk, .int .i64 x.mn, .int .i64 x.cl, .int .i64 x.sw]
def Wl.v (x : Wl) : Value := .agg #[.string x.nm, .int .i64 x.kd, .int .i64 x.lv, .int .i64 x.a1, .int .i64 x.a2, .int .i64 x.b1, .int .i64 x.b2, .int .i64 x.rs, .int .i64 x.gr, .int .i64 x.kk, .int .i64 x.mn, .int .i64 x.cl, .int .i64 x.sw]
theorem Wl.get {w : World} {A : Option Addr} {l : List Wl} (h : RowsAt 13 Wl.cells w A l) {k : Nat} {x : Wl} (hx : l[k]? = some x) : ∃ g o, A = some ⟨g, o, none⟩ ∧ g < w.heap.size ∧ w.cell? ⟨g, o + k * 13, none⟩ = some (.string x.nm) ∧ w.cell? ⟨g, o + k * 13 + 1, none⟩ = some (.int .i64 x.kd) ∧ w.cell? ⟨g, o + k * 13 + 2, none⟩ = some (.int .i64 x.lv) ∧ w.cell? ⟨g, o + k * 13 + 3, none⟩ = some (.int .i64 x.a1) ∧ w.cell? ⟨g, o + k * 13 + 4, none⟩ = some (.int .i64 x.a2) ∧ w.cell? ⟨g, o + k * 13 + 5, none⟩ = some (.int .i64 x.b1) ∧ w.cell? ⟨g, o + k * 13 + 6, none⟩ = some (.int .i64 x.b2) ∧ w.cell? ⟨g, o + k * 13 + 7, none⟩ = some (.int .i64 x.rs) ∧ w.cell? ⟨g, o + k * 13 + 8, none⟩ = some (.int .i64 x.gr) ∧ w.cell? ⟨g, o + k * 13 + 9, none⟩ = some (.int .i64 x.kk) ∧ w.cell? ⟨g, o + k * 13 + 10, none⟩ = some (.int .i64 x.mn) ∧ w.cell? ⟨g, o + k * 13 + 11, none⟩ = some (.int .i64 x.cl) ∧ w.cell? ⟨g, o + k * 13 + 12, none⟩ = some (.int .i64 x.sw) := by
 obtain ⟨g, o, hA, hg, hc⟩ := h k x hx
 simp only [← Nat.add_assoc] at hc
 exact ⟨g, o, hA, hg, hc 0 _ rfl, hc 1 _ rfl, hc 2 _ rfl, hc 3 _ rfl, hc 4 _ rfl, hc 5 _ rfl, hc 6 _ rfl, hc 7 _ rfl, hc 8 _ rfl, hc 9 _ rfl, hc 10 _ rfl, hc 11 _ rfl, hc 12 _ rfl⟩
structure Ac where
  nm : ByteArray
  lv : Int
  c1 : Int
  c2 : Int
  s1 : Int
  s2 : Int
  e1 : Int
  e2 : Int
  rs : Int
  gr : Int
  mn : Int
  sw : Int
def Ac.cells (x : Ac) : List Value := [.string x.nm, .int .i64 x.lv, .int .i64 x.c1, .int .i64 x.c2, .int .i64 x.s1, .int .i64 x.s2, .int .i64 x.e1, .int .i64 x.e2, .int .i64 x.rs, .int .i64 x.gr, .int .i64 x.mn, .int .i64 x.sw]
def Ac.v (x : Ac) : Value := .agg #[.string x.nm, .int .i64 x.lv, .int .i64 x.c1, .int .i64 x.c2, .int .i64 x.s1, .int .i64 x.s2, .int .i64 x.e1, .int .i64 x.e2, .int .i64 x.rs, .int .i64 x.gr, .int .i64 x.mn, .int .i64 x.sw]
theorem Ac.get {w : World} {A : Option Addr} {l : List Ac} (h : RowsAt 12 Ac.cells w A l) {k : Nat} {x : Ac} (hx : l[k]? = some x) : ∃ g o, A = some ⟨g, o, none⟩ ∧ g < w.heap.size ∧ w.cell? ⟨g, o + k * 12, none⟩ = some (.string x.nm) ∧ w.cell? ⟨g, o + k * 12 + 1, none⟩ = some (.int .i64 x.lv) ∧ w.cell? ⟨g, o + k * 12 + 2, none⟩ = some (.int .i64 x.c1) ∧ w.cell? ⟨g, o + k * 12 + 3, none⟩ = some (.int .i64 x.c2) ∧ w.cell? ⟨g, o + k * 12 + 4, none⟩ = some (.int .i64 x.s1) ∧ w.cell? ⟨g, o + k * 12 + 5, none⟩ = some (.int .i64 x.s2) ∧ w.cell? ⟨g, o + k * 12 + 6, none⟩ = some (.int .i64 x.e1) ∧ w.cell? ⟨g, o + k * 12 + 7, none⟩ = some (.int .i64 x.e2) ∧ w.cell? ⟨g, o + k * 12 + 8, none⟩ = some (.int .i64 x.rs) ∧ w.cell? ⟨g, o + k * 12 + 9, none⟩ = some (.int .i64 x.gr) ∧ w.cell? ⟨g, o + k * 12 + 10, none⟩ = some (.int .i64 x.mn) ∧ w.cell? ⟨g, o + k * 12 + 11, none⟩ = some (.int .i64 x.sw) := by
 obtain ⟨g, o, hA, hg, hc⟩ := h k x hx
 simp only [← Nat.add_assoc] at hc
 exact ⟨g, o, hA, hg, hc 0 _ rfl, hc 1 _ rfl, hc 2 _ rfl, hc 3 _ rfl, hc 4 _ rfl, hc 5 _ rfl, hc 6 _ rfl, hc 7 _ rfl, hc 8 _ rfl, hc 9 _ rfl, hc 10 _ rfl, hc 11 _ rfl⟩
structure Ps where
  nm : ByteArray
  lv : Int
  c1 : Int
  c2 : Int
  sz : Int
  rs : Int
  gr : Int
  kk : Int
  mn : Int
  cl : Int
  sw : Int
def Ps.cells (x : Ps) : List Value := [.string x.nm, .int .i64 x.lv, .int .i64 x.c1, .int .i64 x.c2, .int .i64 x.sz, .int .i64 x.rs, .int .i64 x.gr, .int .i64 x.kk, .int .i64 x.mn, .int .i64 x.cl, .int .i64 x.sw]
def Ps.v (x : Ps) : Value := .agg #[.string x.nm, .int .i64 x.lv, .int .i64 x.c1, .int .i64 x.c2, .int .i64 x.sz, .int .i64 x.rs, .int .i64 x.gr, .int .i64 x.kk, .int .i64 x.mn, .int .i64 x.cl, .int .i64 x.sw]
theorem Ps.get {w : World} {A : Option Addr} {l : List Ps} (h : RowsAt 11 Ps.cells w A l) {k : Nat} {x : Ps} (hx : l[k]? = some x) : ∃ g o, A = some ⟨g, o, none⟩ ∧ g < w.heap.size ∧ w.cell? ⟨g, o + k * 11, none⟩ = some (.string x.nm) ∧ w.cell? ⟨g, o + k * 11 + 1, none⟩ = some (.int .i64 x.lv) ∧ w.cell? ⟨g, o + k * 11 + 2, none⟩ = some (.int .i64 x.c1) ∧ w.cell? ⟨g, o + k * 11 + 3, none⟩ = some (.int .i64 x.c2) ∧ w.cell? ⟨g, o + k * 11 + 4, none⟩ = some (.int .i64 x.sz) ∧ w.cell? ⟨g, o + k * 11 + 5, none⟩ = some (.int .i64 x.rs) ∧ w.cell? ⟨g, o + k * 11 + 6, none⟩ = some (.int .i64 x.gr) ∧ w.cell? ⟨g, o + k * 11 + 7, none⟩ = some (.int .i64 x.kk) ∧ w.cell? ⟨g, o + k * 11 + 8, none⟩ = some (.int .i64 x.mn) ∧ w.cell? ⟨g, o + k * 11 + 9, none⟩ = some (.int .i64 x.cl) ∧ w.cell? ⟨g, o + k * 11 + 10, none⟩ = some (.int .i64 x.sw) := by
 obtain ⟨g, o, hA, hg, hc⟩ := h k x hx
 simp only [← Nat.add_assoc] at hc
 exact ⟨g, o, hA, hg, hc 0 _ rfl, hc 1 _ rfl, hc 2 _ rfl, hc 3 _ rfl, hc 4 _ rfl, hc 5 _ rfl, hc 6 _ rfl, hc 7 _ rfl, hc 8 _ rfl, hc 9 _ rfl, hc 10 _ rfl⟩
structure Fl where
  nm : ByteArray
  lv : Int
  p1 : Int
  p2 : Int
  ln : Int
  mi : Bool
  lo : Int
  hi : Int
  up : Int
  dn : Int
  mx : Int
  rs : Int
  gr : Int
  cl : Int
  sw : Int
def Fl.cells (x : Fl) : List Value := [.string x.nm, .int .i64 x.lv, .int .i64 x.p1, .int .i64 x.p2, .int .i64 x.ln, .bool x.mi, .int .i64 x.lo, .int .i64 x.hi, .int .i64 x.up, .int .i64 x.dn, .int .i64 x.mx, .int .i64 x.rs, .int .i64 x.gr, .int .i64 x.cl, .int .i64 x.sw]
def Fl.v (x : Fl) : Value := .agg #[.string x.nm, .int .i64 x.lv, .int .i64 x.p1, .int .i64 x.p2, .int .i64 x.ln, .bool x.mi, .int .i64 x.lo, .int .i64 x.hi, .int .i64 x.up, .int .i64 x.dn, .int .i64 x.mx, .int .i64 x.rs, .int .i64 x.gr, .int .i64 x.cl, .int .i64 x.sw]
theorem Fl.get {w : World} {A : Option Addr} {l : List Fl} (h : RowsAt 15 Fl.cells w A l) {k : Nat} {x : Fl} (hx : l[k]? = some x) : ∃ g o, A = some ⟨g, o, none⟩ ∧ g < w.heap.size ∧ w.cell? ⟨g, o + k * 15, none⟩ = some (.string x.nm) ∧ w.cell? ⟨g, o + k * 15 + 1, none⟩ = some (.int .i64 x.lv) ∧ w.cell? ⟨g, o + k * 15 + 2, none⟩ = some (.int .i64 x.p1) ∧ w.cell? ⟨g, o + k * 15 + 3, none⟩ = some (.int .i64 x.p2) ∧ w.cell? ⟨g, o + k * 15 + 4, none⟩ = some (.int .i64 x.ln) ∧ w.cell? ⟨g, o + k * 15 + 5, none⟩ = some (.bool x.mi) ∧ w.cell? ⟨g, o + k * 15 + 6, none⟩ = some (.int .i64 x.lo) ∧ w.cell? ⟨g, o + k * 15 + 7, none⟩ = some (.int .i64 x.hi) ∧ w.cell? ⟨g, o + k * 15 + 8, none⟩ = some (.int .i64 x.up) ∧ w.cell? ⟨g, o + k * 15 + 9, none⟩ = some (.int .i64 x.dn) ∧ w.cell? ⟨g, o + k * 15 + 10, none⟩ = some (.int .i64 x.mx) ∧ w.cell? ⟨g, o + k * 15 + 11, none⟩ = some (.int .i64 x.rs) ∧ w.cell? ⟨g, o + k * 15 + 12, none⟩ = some (.int .i64 x.gr) ∧ w.cell? ⟨g, o + k * 15 + 13, none⟩ = some (.int .i64 x.cl) ∧ w.cell? ⟨g, o + k * 15 + 14, none⟩ = some (.int .i64 x.sw) := by
 obtain ⟨g, o, hA, hg, hc⟩ := h k x hx
 simp only [← Nat.add_assoc] at hc
 exact ⟨g, o, hA, hg, hc 0 _ rfl, hc 1 _ rfl, hc 2 _ rfl, hc 3 _ rfl, hc 4 _ rfl, hc 5 _ rfl, hc 6 _ rfl, hc 7 _ rfl, hc 8 _ rfl, hc 9 _ rfl, hc 10 _ rfl, hc 11 _ rfl, hc 12 _ rfl, hc 13 _ rfl, hc 14 _ rfl⟩
structure Zn where
  nm : ByteArray
  lv : Int
  l1 : Int
  l2 : Int
  h1 : Int
  h2 : Int
  f1 : Int
  f2 : Int
  cl : Int
def Zn.cells (x : Zn) : List Value := [.string x.nm, .int .i64 x.lv, .int .i64 x.l1, .int .i64 x.l2, .int .i64 x.h1, .int .i64 x.h2, .int .i64 x.f1, .int .i64 x.f2, .int .i64 x.cl]
def Zn.v (x : Zn) : Value := .agg #[.string x.nm, .int .i64 x.lv, .int .i64 x.l1, .int .i64 x.l2, .int .i64 x.h1, .int .i64 x.h2, .int .i64 x.f1, .int .i64 x.f2, .int .i64 x.cl]
theorem Zn.get {w : World} {A : Option Addr} {l : List Zn} (h : RowsAt 9 Zn.cells w A l) {k : Nat} {x : Zn} (hx : l[k]? = some x) : ∃ g o, A = some ⟨g, o, none⟩ ∧ g < w.heap.size ∧ w.cell? ⟨g, o + k * 9, none⟩ = some (.string x.nm) ∧ w.cell? ⟨g, o + k * 9 + 1, none⟩ = some (.int .i64 x.lv) ∧ w.cell? ⟨g, o + k * 9 + 2, none⟩ = some (.int .i64 x.l1) ∧ w.cell? ⟨g, o + k * 9 + 3, none⟩ = some (.int .i64 x.l2) ∧ w.cell? ⟨g, o + k * 9 + 4, none⟩ = some (.int .i64 x.h1) ∧ w.cell? ⟨g, o + k * 9 + 5, none⟩ = some (.int .i64 x.h2) ∧ w.cell? ⟨g, o + k * 9 + 6, none⟩ = some (.int .i64 x.f1) ∧ w.cell? ⟨g, o + k * 9 + 7, none⟩ = some (.int .i64 x.f2) ∧ w.cell? ⟨g, o + k * 9 + 8, none⟩ = some (.int .i64 x.cl) := by
 obtain ⟨g, o, hA, hg, hc⟩ := h k x hx
 simp only [← Nat.add_assoc] at hc
 exact ⟨g, o, hA, hg, hc 0 _ rfl, hc 1 _ rfl, hc 2 _ rfl, hc 3 _ rfl, hc 4 _ rfl, hc 5 _ rfl, hc 6 _ rfl, hc 7 _ rfl, hc 8 _ rfl⟩
structure Sc where
  nm : ByteArray
  lv : Int
  c1 : Int
  c2 : Int
  sz : Int
  lm : Int
  o1 : Int
  o2 : Int
  cl : Int
  sw : Int
def Sc.cells (x : Sc) : List Value := [.string x.nm, .int .i64 x.lv, .int .i64 x.c1, .int .i64 x.c2, .int .i64 x.sz, .int .i64 x.lm, .int .i64 x.o1, .int .i64 x.o2, .int .i64 x.cl, .int .i64 x.sw]
def Sc.v (x : Sc) : Value := .agg #[.string x.nm, .int .i64 x.lv, .int .i64 x.c1, .int .i64 x.c2, .int .i64 x.sz, .int .i64 x.lm, .int .i64 x.o1, .int .i64 x.o2, .int .i64 x.cl, .int .i64 x.sw]
theorem Sc.get {w : World} {A : Option Addr} {l : List Sc} (h : RowsAt 10 Sc.cells w A l) {k : Nat} {x : Sc} (hx : l[k]? = some x) : ∃ g o, A = some ⟨g, o, none⟩ ∧ g < w.heap.size ∧ w.cell? ⟨g, o + k * 10, none⟩ = some (.string x.nm) ∧ w.cell? ⟨g, o + k * 10 + 1, none⟩ = some (.int .i64 x.lv) ∧ w.cell? ⟨g, o + k * 10 + 2, none⟩ = some (.int .i64 x.c1) ∧ w.cell? ⟨g, o + k * 10 + 3, none⟩ = some (.int .i64 x.c2) ∧ w.cell? ⟨g, o + k * 10 + 4, none⟩ = some (.int .i64 x.sz) ∧ w.cell? ⟨g, o + k * 10 + 5, none⟩ = some (.int .i64 x.lm) ∧ w.cell? ⟨g, o + k * 10 + 6, none⟩ = some (.int .i64 x.o1) ∧ w.cell? ⟨g, o + k * 10 + 7, none⟩ = some (.int .i64 x.o2) ∧ w.cell? ⟨g, o + k * 10 + 8, none⟩ = some (.int .i64 x.cl) ∧ w.cell? ⟨g, o + k * 10 + 9, none⟩ = some (.int .i64 x.sw) := by
 obtain ⟨g, o, hA, hg, hc⟩ := h k x hx
 simp only [← Nat.add_assoc] at hc
 exact ⟨g, o, hA, hg, hc 0 _ rfl, hc 1 _ rfl, hc 2 _ rfl, hc 3 _ rfl, hc 4 _ rfl, hc 5 _ rfl, hc 6 _ rfl, hc 7 _ rfl, hc 8 _ rfl, hc 9 _ rfl⟩
structure La where
  nm : ByteArray
  lv : Int
  c1 : Int
  c2 : Int
  sz : Int
  sw : Int
def La.cells (x : La) : List Value := [.string x.nm, .int .i64 x.lv, .int .i64 x.c1, .int .i64 x.c2, .int .i64 x.sz, .int .i64 x.sw]
def La.v (x : La) : Value := .agg #[.string x.nm, .int .i64 x.lv, .int .i64 x.c1, .int .i64 x.c2, .int .i64 x.sz, .int .i64 x.sw]
theorem La.get {w : World} {A : Option Addr} {l : List La} (h : RowsAt 6 La.cells w A l) {k : Nat} {x : La} (hx : l[k]? = some x) : ∃ g o, A = some ⟨g, o, none⟩ ∧ g < w.heap.size ∧ w.cell? ⟨g, o + k * 6, none⟩ = some (.string x.nm) ∧ w.cell? ⟨g, o + k * 6 + 1, none⟩ = some (.int .i64 x.lv) ∧ w.cell? ⟨g, o + k * 6 + 2, none⟩ = some (.int .i64 x.c1) ∧ w.cell? ⟨g, o + k * 6 + 3, none⟩ = some (.int .i64 x.c2) ∧ w.cell? ⟨g, o + k * 6 + 4, none⟩ = some (.int .i64 x.sz) ∧ w.cell? ⟨g, o + k * 6 + 5, none⟩ = some (.int .i64 x.sw) := by
 obtain ⟨g, o, hA, hg, hc⟩ := h k x hx
 simp only [← Nat.add_assoc] at hc
 exact ⟨g, o, hA, hg, hc 0 _ rfl, hc 1 _ rfl, hc 2 _ rfl, hc 3 _ rfl, hc 4 _ rfl, hc 5 _ rfl⟩
structure Ra where
  nm : ByteArray
  fr : Int
  to : Int
  c1 : Int
  c2 : Int
  sz : Int
  d1 : Int
  d2 : Int
def Ra.cells (x : Ra) : List Value := [.string x.nm, .int .i64 x.fr, .int .i64 x.to, .int .i64 x.c1, .int .i64 x.c2, .int .i64 x.sz, .int .i64 x.d1, .int .i64 x.d2]
def Ra.v (x : Ra) : Value := .agg #[.string x.nm, .int .i64 x.fr, .int .i64 x.to, .int .i64 x.c1, .int .i64 x.c2, .int .i64 x.sz, .int .i64 x.d1, .int .i64 x.d2]
theorem Ra.get {w : World} {A : Option Addr} {l : List Ra} (h : RowsAt 8 Ra.cells w A l) {k : Nat} {x : Ra} (hx : l[k]? = some x) : ∃ g o, A = some ⟨g, o, none⟩ ∧ g < w.heap.size ∧ w.cell? ⟨g, o + k * 8, none⟩ = some (.string x.nm) ∧ w.cell? ⟨g, o + k * 8 + 1, none⟩ = some (.int .i64 x.fr) ∧ w.cell? ⟨g, o + k * 8 + 2, none⟩ = some (.int .i64 x.to) ∧ w.cell? ⟨g, o + k * 8 + 3, none⟩ = some (.int .i64 x.c1) ∧ w.cell? ⟨g, o + k * 8 + 4, none⟩ = some (.int .i64 x.c2) ∧ w.cell? ⟨g, o + k * 8 + 5, none⟩ = some (.int .i64 x.sz) ∧ w.cell? ⟨g, o + k * 8 + 6, none⟩ = some (.int .i64 x.d1) ∧ w.cell? ⟨g, o + k * 8 + 7, none⟩ = some (.int .i64 x.d2) := by
 obtain ⟨g, o, hA, hg, hc⟩ := h k x hx
 simp only [← Nat.add_assoc] at hc
 exact ⟨g, o, hA, hg, hc 0 _ rfl, hc 1 _ rfl, hc 2 _ rfl, hc 3 _ rfl, hc 4 _ rfl, hc 5 _ rfl, hc 6 _ rfl, hc 7 _ rfl⟩
structure Dr where
  nm : ByteArray
  lv : Int
  c1 : Int
  c2 : Int
  sz : Int
def Dr.cells (x : Dr) : List Value := [.string x.nm, .int .i64 x.lv, .int .i64 x.c1, .int .i64 x.c2, .int .i64 x.sz]
def Dr.v (x : Dr) : Value := .agg #[.string x.nm, .int .i64 x.lv, .int .i64 x.c1, .int .i64 x.c2, .int .i64 x.sz]
theorem Dr.get {w : World} {A : Option Addr} {l : List Dr} (h : RowsAt 5 Dr.cells w A l) {k : Nat} {x : Dr} (hx : l[k]? = some x) : ∃ g o, A = some ⟨g, o, none⟩ ∧ g < w.heap.size ∧ w.cell? ⟨g, o + k * 5, none⟩ = some (.string x.nm) ∧ w.cell? ⟨g, o + k * 5 + 1, none⟩ = some (.int .i64 x.lv) ∧ w.cell? ⟨g, o + k * 5 + 2, none⟩ = some (.int .i64 x.c1) ∧ w.cell? ⟨g, o + k * 5 + 3, none⟩ = some (.int .i64 x.c2) ∧ w.cell? ⟨g, o + k * 5 + 4, none⟩ = some (.int .i64 x.sz) := by
 obtain ⟨g, o, hA, hg, hc⟩ := h k x hx
 simp only [← Nat.add_assoc] at hc
 exact ⟨g, o, hA, hg, hc 0 _ rfl, hc 1 _ rfl, hc 2 _ rfl, hc 3 _ rfl, hc 4 _ rfl⟩
structure Ln where
  nm : ByteArray
  lv : Int
  a1 : Int
  a2 : Int
  v1 : Int
  v2 : Int
  cl : Int
def Ln.cells (x : Ln) : List Value := [.string x.nm, .int .i64 x.lv, .int .i64 x.a1, .int .i64 x.a2, .int .i64 x.v1, .int .i64 x.v2, .int .i64 x.cl]
def Ln.v (x : Ln) : Value := .agg #[.string x.nm, .int .i64 x.lv, .int .i64 x.a1, .int .i64 x.a2, .int .i64 x.v1, .int .i64 x.v2, .int .i64 x.cl]
theorem Ln.get {w : World} {A : Option Addr} {l : List Ln} (h : RowsAt 7 Ln.cells w A l) {k : Nat} {x : Ln} (hx : l[k]? = some x) : ∃ g o, A = some ⟨g, o, none⟩ ∧ g < w.heap.size ∧ w.cell? ⟨g, o + k * 7, none⟩ = some (.string x.nm) ∧ w.cell? ⟨g, o + k * 7 + 1, none⟩ = some (.int .i64 x.lv) ∧ w.cell? ⟨g, o + k * 7 + 2, none⟩ = some (.int .i64 x.a1) ∧ w.cell? ⟨g, o + k * 7 + 3, none⟩ = some (.int .i64 x.a2) ∧ w.cell? ⟨g, o + k * 7 + 4, none⟩ = some (.int .i64 x.v1) ∧ w.cell? ⟨g, o + k * 7 + 5, none⟩ = some (.int .i64 x.v2) ∧ w.cell? ⟨g, o + k * 7 + 6, none⟩ = some (.int .i64 x.cl) := by
 obtain ⟨g, o, hA, hg, hc⟩ := h k x hx
 simp only [← Nat.add_assoc] at hc
 exact ⟨g, o, hA, hg, hc 0 _ rfl, hc 1 _ rfl, hc 2 _ rfl, hc 3 _ rfl, hc 4 _ rfl, hc 5 _ rfl, hc 6 _ rfl⟩
structure Tb where
  rad : Int
  bal : Int
  rst : Int
  gx : Int
  gy : Int
  drg : Int
  shf : Int
  tr : List Int
  ws : List Wl
  ars : List Ac
  ps : List Ps
  fs : List Fl
  zs : List Zn
  ss : List Sc
  las : List La
  rs : List Ra
  ds : List Dr
  lns : List Ln
structure TbA where
  tr : Option Addr
  trc : Nat
  ws : Option Addr
  wsc : Nat
  ars : Option Addr
  arsc : Nat
  ps : Option Addr
  psc : Nat
  fs : Option Addr
  fsc : Nat
  zs : Option Addr
  zsc : Nat
  ss : Option Addr
  ssc : Nat
  las : Option Addr
  lasc : Nat
  rs : Option Addr
  rsc : Nat
  ds : Option Addr
  dsc : Nat
  lns : Option Addr
  lnsc : Nat
def Tb.cells (t : Tb) (a : TbA) : List Value := [.int .i64 t.rad, .int .i64 t.bal, .int .i64 t.rst, .int .i64 t.gx, .int .i64 t.gy, .int .i64 t.drg, .int .i64 t.shf, .slice a.tr t.tr.length a.trc, .slice a.ws t.ws.length a.wsc, .slice a.ars t.ars.length a.arsc, .slice a.ps t.ps.length a.psc, .slice a.fs t.fs.length a.fsc, .slice a.zs t.zs.length a.zsc, .slice a.ss t.ss.length a.ssc, .slice a.las t.las.length a.lasc, .slice a.rs t.rs.length a.rsc, .slice a.ds t.ds.length a.dsc, .slice a.lns t.lns.length a.lnsc]
def Tb.v (t : Tb) (a : TbA) : Value := .agg #[.int .i64 t.rad, .int .i64 t.bal, .int .i64 t.rst, .int .i64 t.gx, .int .i64 t.gy, .int .i64 t.drg, .int .i64 t.shf, .slice a.tr t.tr.length a.trc, .slice a.ws t.ws.length a.wsc, .slice a.ars t.ars.length a.arsc, .slice a.ps t.ps.length a.psc, .slice a.fs t.fs.length a.fsc, .slice a.zs t.zs.length a.zsc, .slice a.ss t.ss.length a.ssc, .slice a.las t.las.length a.lasc, .slice a.rs t.rs.length a.rsc, .slice a.ds t.ds.length a.dsc, .slice a.lns t.lns.length a.lnsc]
structure TbAt (w : World) (t : Tb) (a : TbA) : Prop where
  tr : RowsAt 1 (fun x : Int => [Value.int .i64 x]) w a.tr t.tr
  ws : RowsAt 13 Wl.cells w a.ws t.ws
  ars : RowsAt 12 Ac.cells w a.ars t.ars
  ps : RowsAt 11 Ps.cells w a.ps t.ps
  fs : RowsAt 15 Fl.cells w a.fs t.fs
  zs : RowsAt 9 Zn.cells w a.zs t.zs
  ss : RowsAt 10 Sc.cells w a.ss t.ss
  las : RowsAt 6 La.cells w a.las t.las
  rs : RowsAt 8 Ra.cells w a.rs t.rs
  ds : RowsAt 5 Dr.cells w a.ds t.ds
  lns : RowsAt 7 Ln.cells w a.lns t.lns
theorem TbAt.below {w w1 : World} {t : Tb} {a : TbA} {B : Nat} (h : TbAt w t a) (hb : Below B w w1) (hB : w.heap.size ≤ B) : TbAt w1 t a := ⟨h.tr.below hb hB, h.ws.below hb hB, h.ars.below hb hB, h.ps.below hb hB, h.fs.below hb hB, h.zs.below hb hB, h.ss.below hb hB, h.las.below hb hB, h.rs.below hb hB, h.ds.below hb hB, h.lns.below hb hB⟩
section
variable {P : Program} {ops : Array Oper} {md : Region.Mode} {N : Nat} {W0 : World}
def SG (N : Nat) (W0 : World) (G : List (Nat × Obj)) (W : World) : Prop := Own N W0 W ∧ ∀ p ∈ G, N ≤ p.1 ∧ W.heap[p.1]? = some p.2
theorem SG.size {G : List (Nat × Obj)} {W : World} (h : SG N W0 G W) {p : Nat × Obj} (hp : p ∈ G) : p.1 < W.heap.size := by
 have h1 := (h.2 p hp).2
 exact (Array.getElem?_eq_some_iff.1 h1).1
theorem SG.below {G : List (Nat × Obj)} {W W' : World} (h : SG N W0 G W) (hb : Below W.heap.size W W') : SG N W0 G W' :=
 ⟨h.1.call hb, fun p hp => ⟨(h.2 p hp).1, by rw [hb.block _ (h.size hp)]; exact (h.2 p hp).2⟩⟩
theorem SG.alloc {G : List (Nat × Obj)} {W : World} (h : SG N W0 G W) (o : Obj) : SG N W0 ((W.heap.size, o) :: G) (W.alloc o) := by
 refine ⟨h.1.alloc o, fun p hp => ?_⟩
 rcases List.mem_cons.1 hp with rfl | hp
 · exact ⟨h.1.1, heap_alloc_new W o⟩
 · exact ⟨(h.2 p hp).1, by rw [Below.heap_alloc _ _ _ (h.size hp)]; exact (h.2 p hp).2⟩
def givesB (P : Program) (W : World) (v : Value) : Result Next → Prop
  | .ok (.value u) w' => u = v ∧ Below W.heap.size W w'
  | .ok .skip w' => v = undef ∧ Below W.heap.size W w'
  | .ok (.enter f args) w' => Calls P f args w' (fun e w'' => e = .returned v ∧ Below W.heap.size W w'')
  | _ => False
theorem givesB_value (W : World) (v u : Value) (w : World) : givesB P W v (.ok (.value u) w) = (u = v ∧ Below W.heap.size W w) := rfl
theorem givesB_skip (W : World) (v : Value) (w : World) : givesB P W v (.ok .skip w) = (v = undef ∧ Below W.heap.size W w) := rfl
theorem givesB_enter (W : World) (v : Value) (f : FuncId) (args : Array Value) (w : World) : givesB P W v (.ok (.enter f args) w) = Calls P f args w (fun e w'' => e = .returned v ∧ Below W.heap.size W w'') := rfl
def Cl (F : World → Prop) : Prop := ∀ W W', F W → Below W.heap.size W W' → F W'
theorem Cl.and {F F' : World → Prop} (h : Cl F) (h' : Cl F') : Cl (fun W => F W ∧ F' W) := fun W W' k hb => ⟨h W W' k.1 hb, h' W W' k.2 hb⟩
theorem Cl.tt : Cl (fun _ => True) := fun _ _ _ _ => trivial
def XPost (W : World) (K : Value → (World → Prop) → Prop) (e : Ending) (w'' : World) : Prop := ∃ (v : Value) (F : World → Prop), e = .returned v ∧ Below W.heap.size W w'' ∧ F w'' ∧ Cl F ∧ K v F
theorem XPost.mk {W w'' : World} {K : Value → (World → Prop) → Prop} (v : Value) (F : World → Prop) (hb : Below W.heap.size W w'') (hF : F w'') (hC : Cl F) (hK : K v F) : XPost W K (.returned v) w'' := ⟨v, F, rfl, hb, hF, hC, hK⟩
def givesX (P : Program) (W : World) (K : Value → (World → Prop) → Prop) : Result Next → Prop
  | .ok (.value u) w' => ∃ F : World → Prop, Below W.heap.size W w' ∧ F w' ∧ Cl F ∧ K u F
  | .ok .skip w' => ∃ F : World → Prop, Below W.heap.size W w' ∧ F w' ∧ Cl F ∧ K undef F
  | .ok (.enter f args) w' => Calls P f args w' (XPost W K)
  | _ => False
theorem givesX_enter (W : World) (K : Value → (World → Prop) → Prop) (f : FuncId) (args : Array Value) (w : World) : givesX P W K (.ok (.enter f args) w) = Calls P f args w (XPost W K) := rfl
theorem givesX_value (W : World) (K : Value → (World → Prop) → Prop) (u : Value) (w : World) : givesX P W K (.ok (.value u) w) = ∃ F : World → Prop, Below W.heap.size W w ∧ F w ∧ Cl F ∧ K u F := rfl
theorem givesX_mono {W : World} {K K' : Value → (World → Prop) → Prop} (h : ∀ v F, K v F → K' v F) : ∀ r, givesX P W K r → givesX P W K' r := by
 intro r hr
 match r, hr with
 | .ok (.value u) w', ⟨F, a, b, c, d⟩ => exact ⟨F, a, b, c, h _ _ d⟩
 | .ok .skip w', ⟨F, a, b, c, d⟩ => exact ⟨F, a, b, c, h _ _ d⟩
 | .ok (.enter f args) w', hr => exact Calls.mono hr fun e w'' ⟨v, F, e1, a, b, c, d⟩ => ⟨v, F, e1, a, b, c, h _ _ d⟩
def GivesH (P : Program) (N : Nat) (W0 : World) (o : Oper) (a : Act) (v : Value) : Prop := ∀ W, Own N W0 W → givesB P W v ((execOp a.eval o).run P W)
def YieldsH (P : Program) (ops : Array Oper) (N : Nat) (W0 : World) (o : Oper) (v : Value) (a : Act) : Prop :=
  (Region.wanted o (yielded ops a.tmps) = true ∧ GivesH P N W0 o a v) ∨ (Region.wanted o (yielded ops a.tmps) = false ∧ v = undef)
abbrev GK := (World → Prop) → List (Nat × Obj) → Act → Prop
def WPost (N : Nat) (W0 : World) (K : Value → (World → Prop) → List (Nat × Obj) → Prop) (e : Ending) (w : World) : Prop := ∃ (v : Value) (F : World → Prop) (G : List (Nat × Obj)), e = .returned v ∧ F w ∧ Cl F ∧ SG N W0 G w ∧ K v F G
theorem WPost.mk {N : Nat} {W0 w : World} {K : Value → (World → Prop) → List (Nat × Obj) → Prop} (v : Value) (F : World → Prop) (G : List (Nat × Obj)) (hF : F w) (hC : Cl F) (hS : SG N W0 G w) (hK : K v F G) : WPost N W0 K (.returned v) w := ⟨v, F, G, rfl, hF, hC, hS, hK⟩
def givesW (P : Program) (N : Nat) (W0 : World) (K : Value → (World → Prop) → List (Nat × Obj) → Prop) : Result Next → Prop
  | .ok (.value u) w' => WPost N W0 K (.returned u) w'
  | .ok .skip w' => WPost N W0 K (.returned undef) w'
  | .ok (.enter f args) w' => Calls P f args w' (WPost N W0 K)
  | _ => False
theorem givesW_value (K : Value → (World → Prop) → List (Nat × Obj) → Prop) (u : Value) (w : World) : givesW P N W0 K (.ok (.value u) w) = WPost N W0 K (.returned u) w := rfl
theorem givesW_skip (K : Value → (World → Prop) → List (Nat × Obj) → Prop) (w : World) : givesW P N W0 K (.ok .skip w) = WPost N W0 K (.returned undef) w := rfl
theorem givesW_enter (K : Value → (World → Prop) → List (Nat × Obj) → Prop) (f : FuncId) (args : Array Value) (w : World) : givesW P N W0 K (.ok (.enter f args) w) = Calls P f args w (WPost N W0 K) := rfl
theorem WPost.mono {K K' : Value → (World → Prop) → List (Nat × Obj) → Prop} (h : ∀ v F G, K v F G → K' v F G) {e : Ending} {w : World} (hh : WPost N W0 K e w) : WPost N W0 K' e w := by
 obtain ⟨v, F, G, a, b, c, d, k⟩ := hh; exact ⟨v, F, G, a, b, c, d, h _ _ _ k⟩
theorem givesW_mono {K K' : Value → (World → Prop) → List (Nat × Obj) → Prop} (h : ∀ v F G, K v F G → K' v F G) : ∀ r, givesW P N W0 K r → givesW P N W0 K' r := by
 intro r hr
 match r, hr with
 | .ok (.value u) w', hr => exact WPost.mono h hr
 | .ok .skip w', hr => exact WPost.mono h hr
 | .ok (.enter f args) w', hr => exact Calls.mono hr fun e w'' h' => WPost.mono h h'
def WildX (P : Program) (ops : Array Oper) (N : Nat) (W0 : World) (o : Oper) (a : Act) (K : GK) (F : World → Prop) (G : List (Nat × Obj)) : Prop :=
  Region.wanted o (yielded ops a.tmps) = true ∧ ∀ W, F W → SG N W0 G W → givesW P N W0 (fun v F' G' => K F' G' (a.put o.dst v)) ((execOp a.eval o).run P W)
def CallX (P : Program) (ops : Array Oper) (N : Nat) (W0 : World) (o : Oper) (a : Act) (K : GK) (F : World → Prop) (G : List (Nat × Obj)) : Prop :=
  Region.wanted o (yielded ops a.tmps) = true ∧ ∀ W, F W → SG N W0 G W → givesX P W (fun v F' => K (fun W => F W ∧ F' W) G (a.put o.dst v)) ((execOp a.eval o).run P W)
abbrev LK := Array Bool → GK
theorem YieldsH.of_same {o : Oper} {v : Value} {a a' : Act} (hy : YieldsH P ops N W0 o v a) (he : execOp a'.eval o = execOp a.eval o)
  (hw : Region.wanted o (yielded ops a'.tmps) = Region.wanted o (yielded ops a.tmps)) : YieldsH P ops N W0 o v a' := by
 unfold YieldsH GivesH at *; rw [he, hw]; exact hy
theorem SG.weak {G : List (Nat × Obj)} {p : Nat × Obj} {W : World} (h : SG N W0 (p :: G) W) : SG N W0 G W := ⟨h.1, fun q hq => h.2 q (by simp [hq])⟩
theorem SG.put {G : List (Nat × Obj)} {W : World} {g : Nat} {cs : Array Value} {T : TypeId} (h : SG N W0 ((g, .cells cs T) :: G) W) (hG : ∀ p ∈ G, p.1 ≠ g) (k : Nat) (x : Value) :
  SG N W0 ((g, .cells (cs.setIfInBounds k x) T) :: G) (W.setCell ⟨g, k, none⟩ x) := by
 have h0 := h.2 (g, .cells cs T) (by simp)
 refine ⟨h.1.setCell h0.1 _, fun p hp => ?_⟩
 rcases List.mem_cons.1 hp with rfl | hp
 · refine ⟨h0.1, ?_⟩
   have h1 := h0.2
   simp only at h1
   simp [World.setCell, Array.getElem?_modify, h1]
 · have h2 := h.2 p (by simp [hp])
   refine ⟨h2.1, ?_⟩
   rw [Below.heap_setCell _ _ _ _ (hG p hp)]
   exact h2.2
end
attribute [go_sem] givesB_value givesB_skip givesB_enter givesX_value givesX_enter givesW_value givesW_skip givesW_enter
section
variable {P : Program} {ops : Array Oper} {md : Region.Mode} {N : Nat} {W0 : World}
theorem SG.same {G G' : List (Nat × Obj)} {W : World} (h : ∀ p, p ∈ G ↔ p ∈ G') (hS : SG N W0 G W) : SG N W0 G' W := ⟨hS.1, fun p hp => hS.2 p ((h p).2 hp)⟩
theorem same_cons {G G' : List (Nat × Obj)} (h : ∀ p, p ∈ G ↔ p ∈ G') (q : Nat × Obj) : ∀ p, p ∈ q :: G ↔ p ∈ q :: G' := fun p => by simp [h p]
def LInv (L : GK) : Prop := ∀ F G G' a, (∀ p, p ∈ G ↔ p ∈ G') → L F G a → L F G' a
end
section
variable {P : Program} {ops : Array Oper} {md : Region.Mode} {N : Nat} {W0 : World}
def waitsJ (md : Region.Mode) (ops : Array Oper) : Nat → Nat → Nat → Bool
  | 0, _, _ => false
  | f + 1, t, i => match ops[t]? with
    | some o => (o.after.any fun e => Region.binds md e && e.on == i) || o.after.any fun e => Region.binds md e && waitsJ md ops f e.on i
    | none => false
def DC (md : Region.Mode) (ops : Array Oper) (listed : Array Bool) : Prop := ∀ j o, ops[j]? = some o → listed.getD j false = true → ∀ e ∈ o.after, Region.binds md e = true → listed.getD e.on false = true
def dcB (md : Region.Mode) (ops : Array Oper) (listed : Array Bool) : Bool := (List.range ops.size).all fun j => match ops[j]? with
  | some o => !listed.getD j false || o.after.all fun e => !Region.binds md e || listed.getD e.on false
  | none => true
theorem dcB_spec {listed : Array Bool} (h : dcB md ops listed = true) : DC md ops listed := fun j o hj hl e he hb => by
 simp only [dcB, List.all_eq_true, List.mem_range] at h
 have h1 := h j (Array.getElem?_eq_some_iff.1 hj).1
 simp only [hj, hl, Bool.not_true, Bool.false_or] at h1
 have h2 := Array.all_eq_true'.1 h1 e he
 simpa [hb] using h2
theorem getD_set_mono {listed : Array Bool} {i k : Nat} (h : listed.getD k false = true) : (listed.setIfInBounds i true).getD k false = true := by
 simp only [Array.getD_eq_getD_getElem?, Array.getElem?_setIfInBounds] at *
 split
 · split <;> simp_all
 · exact h
theorem DC.set {listed : Array Bool} {i : Nat} (h : DC md ops listed) (hr : i ∈ Region.ready md ops listed) : DC md ops (listed.setIfInBounds i true) := fun j o hj hl e he hb => by
 by_cases hji : j = i
 · subst hji
   obtain ⟨_, o', ho', hall⟩ := mem_ready.1 hr
   rw [hj] at ho'; injection ho' with ho'; subst ho'
   exact getD_set_mono (hall e he hb)
 · refine getD_set_mono (h j o hj ?_ e he hb)
   simp only [Array.getD_eq_getD_getElem?, Array.getElem?_setIfInBounds] at *
   rw [if_neg (fun e => hji e.symm)] at hl
   exact hl
theorem waits_spec {listed : Array Bool} (hdc : DC md ops listed) : ∀ (f t i : Nat), waitsJ md ops f t i = true → (∀ o, ops[t]? = some o → ∀ e ∈ o.after, Region.binds md e = true → listed.getD e.on false = true) → listed.getD i false = true
 | 0, t, i, h, _ => by simp [waitsJ] at h
 | f + 1, t, i, h, hd => by
  unfold waitsJ at h
  split at h
  · rename_i o ho
    rw [Bool.or_eq_true] at h
    rcases h with h | h
    · obtain ⟨e, he, hb⟩ := Array.any_eq_true'.1 h
      simp only [Bool.and_eq_true, beq_iff_eq] at hb
      have := hd o ho e he hb.1
      rwa [hb.2] at this
    · obtain ⟨e, he, hb⟩ := Array.any_eq_true'.1 h
      simp only [Bool.and_eq_true] at hb
      exact waits_spec hdc f e.on i hb.2 (fun o' ho' e' he' hb' => hdc e.on o' ho' (hd o ho e he hb.1) e' he' hb')
  · cases h
def tailBJ (md : Region.Mode) (ops : Array Oper) (n : List Nat) : Bool :=
  Region.noSelect ops && (List.range ops.size).all fun t => !n.contains t || match ops[t]? with
    | some _ => (List.range ops.size).all fun i => n.contains i || waitsJ md ops ops.size t i
    | none => true
theorem tailB_specJ {n : List Nat} {t i : Nat} {listed : Array Bool} (h : tailBJ md ops n = true) (hdc : DC md ops listed) (ht : t ∈ Region.ready md ops listed) (hs : i < ops.size) (hi : n.contains i = false) (hun : listed.getD i true = false) : n.contains t = false := by
 cases hc : n.contains t
 · rfl
 · exfalso
   obtain ⟨_, o, ho, hall⟩ := mem_ready.1 ht
   simp only [tailBJ, Bool.and_eq_true, List.all_eq_true, List.mem_range] at h
   have h1 := h.2 t (Array.getElem?_eq_some_iff.1 ho).1
   simp only [ho, hc, Bool.not_true, Bool.false_or, List.all_eq_true, List.mem_range] at h1
   have h2 := h1 i hs
   rw [hi, Bool.false_or] at h2
   have h3 := waits_spec hdc _ _ _ h2 (fun o' ho' e he hb => by rw [ho] at ho'; injection ho' with ho'; subst ho'; exact hall e he hb)
   rw [getD_both hun] at h3
   cases h3
def seqJ (md : Region.Mode) (ops : Array Oper) : List Nat → Array Bool → Bool
  | [], listed => (Region.ready md ops listed).isEmpty
  | k :: js, listed => decide (Region.ready md ops listed = [k]) && seqJ md ops js (listed.setIfInBounds k true)
theorem wpAny_of_seqJ {Q' : Exit → Act → World → Prop} : ∀ (js : List Nat) (listed : Array Bool) (a : Act) (w : World), (∀ j ∈ js, j < ops.size) →
  seqJ md ops js listed = true → wpList P ops Q' (js.filterMap (fun i => ops[i]?)) a w → wpAny P md ops Q' js.length listed a w
 | [], listed, a, w, _, hB, h => ⟨by simpa [seqJ] using hB, h⟩
 | k :: js, listed, a, w, hl, hB, h => by
  have hk : k < ops.size := hl k (by simp)
  have h0 : ops[k]? = some ops[k] := Array.getElem?_eq_some_iff.2 ⟨hk, rfl⟩
  simp only [seqJ, Bool.and_eq_true, decide_eq_true_eq] at hB
  refine ⟨fun h1 => (by rw [hB.1] at h1; cases h1), fun i hi => ?_⟩
  rw [hB.1] at hi
  have hik : i = k := by simpa using hi
  subst hik
  rw [List.filterMap_cons, h0] at h
  have hw : wpOp P ops Q' i (wpList P ops Q' (js.filterMap (fun i => ops[i]?))) a w := by unfold wpOp; simp only [h0]; exact h
  exact wpOp_mono (fun a' w' h' => wpAny_of_seqJ js _ a' w' (fun j hj => hl j (by simp [hj])) hB.2 h') hw
theorem seqB_memJ {n : List Nat} {listed : Array Bool} (h : seqJ md ops n listed = true) : ∀ j ∈ Region.ready md ops listed, n.contains j = true := by
 cases n with
 | nil => intro j hj; simp only [seqJ, List.isEmpty_iff] at h; rw [h] at hj; cases hj
 | cons k js =>
  intro j hj
  simp only [seqJ, Bool.and_eq_true, decide_eq_true_eq] at h
  rw [h.1] at hj
  have : j = k := by simpa using hj
  subst this
  simp
def isFresh (o : Oper) : Bool := match o.op with | .alloc _ => o.guard.isNone | .buildSlice _ _ _ => o.guard.isNone | _ => false
def freshV (o : Oper) (g : Nat) : Value := match o.op with | .buildSlice _ n _ => .slice (some ⟨g, 0, none⟩) n n | _ => .pointer (some ⟨g, 0, none⟩)
def FreshQ (P : Program) (ops : Array Oper) (o : Oper) (a : Act) (ob : Obj) : Prop :=
  Region.wanted o (yielded ops a.tmps) = true ∧ ∀ W, (execOp a.eval o).run P W = .ok (.value (freshV o W.heap.size)) (W.alloc ob)
theorem freshQ_ob {o : Oper} {a a' : Act} {ob ob' : Obj} (h : FreshQ P ops o a ob) (h' : FreshQ P ops o a' ob') (he : execOp a'.eval o = execOp a.eval o) (W : World) : ob = ob' := by
 have h1 := h.2 W
 have h2 := h'.2 W
 rw [he, h1] at h2
 have h3 : W.alloc ob = W.alloc ob' := by injection h2
 have h4 := heap_alloc_new W ob
 rw [h3, heap_alloc_new W ob'] at h4
 injection h4 with h4
 exact h4.symm
def wfQ (P : Program) (ops : Array Oper) (N : Nat) (W0 : World) (i : Nat) (K : GK) (F : World → Prop) (G : List (Nat × Obj)) (a : Act) : Prop :=
  match ops[i]? with
  | none => False
  | some o => if isFresh o = true then ∃ ob, FreshQ P ops o a ob ∧ ∀ g, N ≤ g → (∀ p ∈ G, p.1 ≠ g) → K F ((g, ob) :: G) (a.put o.dst (freshV o g))
      else (∃ v, YieldsH P ops N W0 o v a ∧ K F G (a.put o.dst v)) ∨
      WildX P ops N W0 o a K F G ∨
      CallX P ops N W0 o a K F G
def Live (N : Nat) (W0 : World) (F : World → Prop) (G : List (Nat × Obj)) : Prop := Cl F ∧ ∃ W, F W ∧ SG N W0 G W
theorem Live.weak {F : World → Prop} {G : List (Nat × Obj)} {p : Nat × Obj} (h : Live N W0 F (p :: G)) : Live N W0 F G := ⟨h.1, h.2.choose, h.2.choose_spec.1, h.2.choose_spec.2.weak⟩
theorem Live.same {F : World → Prop} {G G' : List (Nat × Obj)} (h : ∀ p, p ∈ G ↔ p ∈ G') (hl : Live N W0 F G) : Live N W0 F G' := ⟨hl.1, hl.2.choose, hl.2.choose_spec.1, hl.2.choose_spec.2.same h⟩
theorem Live.grow {F : World → Prop} {G : List (Nat × Obj)} (h : Live N W0 F G) (ob : Obj) : ∃ g, N ≤ g ∧ (∀ p ∈ G, p.1 ≠ g) ∧ Live N W0 F ((g, ob) :: G) := by
 obtain ⟨hC, W, hF, hS⟩ := h
 exact ⟨W.heap.size, hS.1.1, fun p hp e => by have := hS.size hp; omega, hC, W.alloc ob, hC _ _ hF ((Below.refl _ _).alloc (Nat.le_refl _) _), hS.alloc ob⟩
theorem givesX_live {W : World} {K : Value → (World → Prop) → Prop} : ∀ {r : Result Next}, givesX P W K r → ∃ v F' w'', Below W.heap.size W w'' ∧ F' w'' ∧ Cl F' ∧ K v F' := by
 intro r hr
 match r, hr with
 | .ok (.value u) w', ⟨F, a, b, c, d⟩ => exact ⟨_, _, _, a, b, c, d⟩
 | .ok .skip w', ⟨F, a, b, c, d⟩ => exact ⟨_, _, _, a, b, c, d⟩
 | .ok (.enter f args) w', hr =>
  obtain ⟨e, w'', fr, ⟨v, F, e1, a, b, c, d⟩, _⟩ := hr []
  exact ⟨_, _, _, a, b, c, d⟩
def wpQ (P : Program) (md : Region.Mode) (ops : Array Oper) (N : Nat) (W0 : World) (n : List Nat) (L : GK) : Nat → LK
  | 0, listed, F, G, a => Live N W0 F G → seqJ md ops n listed = true ∧ L F G a
  | f + 1, listed, F, G, a => Live N W0 F G → Region.ready md ops listed ≠ [] ∧ ∀ i ∈ Region.ready md ops listed, wfQ P ops N W0 i (wpQ P md ops N W0 n L f (listed.setIfInBounds i true)) F G a
theorem wpQ_live {n : List Nat} {L : GK} {f : Nat} {listed : Array Bool} {F : World → Prop} {G : List (Nat × Obj)} {a : Act} (h : Live N W0 F G → wpQ P md ops N W0 n L f listed F G a) : wpQ P md ops N W0 n L f listed F G a := by
 cases f
 · exact fun hl => h hl hl
 · exact fun hl => h hl hl
theorem wfQ_mono {i : Nat} {a : Act} {F : World → Prop} {G : List (Nat × Obj)} {K K' : GK} (h : ∀ F G a, K F G a → K' F G a) (hh : wfQ P ops N W0 i K F G a) : wfQ P ops N W0 i K' F G a := by
 unfold wfQ at *
 split
 · rename_i ho; simp only [ho] at hh
 · rename_i o ho
   simp only [ho] at hh
   split at hh
   · rename_i ha
     rw [if_pos ha]
     obtain ⟨ob, hf, hk⟩ := hh
     exact ⟨ob, hf, fun g hN hg => h _ _ _ (hk g hN hg)⟩
   · rename_i ha
     rw [if_neg ha]
     rcases hh with ⟨v, hy, hk⟩ | ⟨hw, hx⟩ | ⟨hw, hx⟩
     · exact .inl ⟨v, hy, h _ _ _ hk⟩
     · exact .inr (.inl ⟨hw, fun W hF hS => givesW_mono (fun v F' G' hk => h _ _ _ hk) _ (hx W hF hS)⟩)
     · exact .inr (.inr ⟨hw, fun W hF hS => givesX_mono (fun v F' hk => h _ _ _ hk) _ (hx W hF hS)⟩)
theorem wfQ_put {j : Nat} {oi oj : Oper} {v : Value} (hj : ops[j]? = some oj) (hap : oi.apart ops oj = true)
  (hsi : ∀ cs b, oi.op ≠ .select cs b) (hsj : ∀ cs b, oj.op ≠ .select cs b) {K : GK} {F : World → Prop} {G : List (Nat × Obj)} {a : Act}
  (hy : YieldsH P ops N W0 oi v a) (h : wfQ P ops N W0 j K F G (a.put oi.dst v)) :
  wfQ P ops N W0 j (fun F' G' a' => YieldsH P ops N W0 oi v a' ∧ K F' G' (a'.put oi.dst v)) F G a := by
 obtain ⟨h1, h2, h3⟩ := Oper.apart_spec hap
 have keep : ∀ u, YieldsH P ops N W0 oi v (a.put oj.dst u) := fun u => hy.of_same (execOp_put oi hsi a oj.dst u h3) (wanted_put oi a oj.dst u h3)
 have e1 := execOp_put oj hsj a oi.dst v h1
 have e2 := wanted_put oj a oi.dst v h1
 unfold wfQ at *
 simp only [hj] at *
 split at h
 · rename_i ha
   rw [if_pos ha]
   obtain ⟨ob, hf, hk⟩ := h
   refine ⟨ob, ?_, fun g hN hg => ⟨keep _, by rw [← Act.put_comm a v _ h2]; exact hk g hN hg⟩⟩
   unfold FreshQ at *; rw [e1, e2] at hf; exact hf
 · rename_i ha
   rw [if_neg ha]
   rcases h with ⟨u, hu, hk⟩ | ⟨hw, hx⟩ | ⟨hw, hx⟩
   · exact .inl ⟨u, hu.of_same e1.symm e2.symm, keep u, by rw [← Act.put_comm a v u h2]; exact hk⟩
   · refine .inr (.inl ⟨by rw [← e2]; exact hw, fun W hF hS => ?_⟩)
     have := hx W hF hS
     rw [e1] at this
     exact givesW_mono (fun u F' G' hk => ⟨keep u, by rw [← Act.put_comm a v u h2]; exact hk⟩) _ this
   · refine .inr (.inr ⟨by rw [← e2]; exact hw, fun W hF hS => ?_⟩)
     have := hx W hF hS
     rw [e1] at this
     exact givesX_mono (fun u F' hk => ⟨keep u, by rw [← Act.put_comm a v u h2]; exact hk⟩) _ this
theorem wfQ_same {i : Nat} {a : Act} {F : World → Prop} {G G' : List (Nat × Obj)} {K : GK} (hK : LInv K) (h : ∀ p, p ∈ G ↔ p ∈ G') (hh : wfQ P ops N W0 i K F G a) : wfQ P ops N W0 i K F G' a := by
 unfold wfQ at *
 split
 · rename_i ho; simp only [ho] at hh
 · rename_i o ho
   simp only [ho] at hh
   split at hh
   · rename_i ha
     rw [if_pos ha]
     obtain ⟨ob, hf, hk⟩ := hh
     exact ⟨ob, hf, fun g hN hg => hK _ _ _ _ (same_cons h _) (hk g hN (fun p hp => hg p ((h p).1 hp)))⟩
   · rename_i ha
     rw [if_neg ha]
     rcases hh with ⟨v, hy, hk⟩ | ⟨hw, hx⟩ | ⟨hw, hx⟩
     · exact .inl ⟨v, hy, hK _ _ _ _ h hk⟩
     · exact .inr (.inl ⟨hw, fun W hF hS => hx W hF (hS.same (fun p => (h p).symm))⟩)
     · exact .inr (.inr ⟨hw, fun W hF hS => givesX_mono (fun v F' hk => hK _ _ _ _ h hk) _ (hx W hF (hS.same (fun p => (h p).symm)))⟩)
theorem wpQ_same {n : List Nat} {L : GK} (hL : LInv L) : ∀ (f : Nat) (listed : Array Bool), LInv (wpQ P md ops N W0 n L f listed)
 | 0, listed => fun F G G' a h hh hl => ⟨(hh (hl.same (fun p => (h p).symm))).1, hL _ _ _ _ h (hh (hl.same (fun p => (h p).symm))).2⟩
 | f + 1, listed => fun F G G' a h hh hl => ⟨(hh (hl.same (fun p => (h p).symm))).1, fun i hi => wfQ_same (wpQ_same hL f _) h ((hh (hl.same (fun p => (h p).symm))).2 i hi)⟩
theorem wpQ_first {i : Nat} {n : List Nat} {oi : Oper} {v : Value} {L : GK} (hT : tailBJ md ops n = true) (hin : n.contains i = false) (hi : ops[i]? = some oi) (ha : isFresh oi = false) :
  ∀ (f : Nat) (listed : Array Bool) (F : World → Prop) (G : List (Nat × Obj)) (a : Act),
   DC md ops listed → (∀ j oj, ops[j]? = some oj → j ≠ i → listed.getD j true = false → (∀ e ∈ oj.after, Region.binds md e = true → e.on ≠ i) → oi.apart ops oj = true) →
   i ∈ Region.ready md ops listed → YieldsH P ops N W0 oi v a →
   wpQ P md ops N W0 n L f (listed.setIfInBounds i true) F G (a.put oi.dst v) → wpQ P md ops N W0 n L (f + 1) listed F G a := by
 have hsel := Region.noSelect_spec (by have := hT; unfold tailBJ at this; rw [Bool.and_eq_true] at this; exact this.1)
 have base : ∀ (F : World → Prop) (G : List (Nat × Obj)) (a : Act), YieldsH P ops N W0 oi v a → ∀ K : GK, K F G (a.put oi.dst v) → wfQ P ops N W0 i K F G a := by
  intro F G a hy K H
  unfold wfQ
  simp only [hi]
  rw [if_neg (by rw [ha]; exact Bool.false_ne_true)]
  exact .inl ⟨v, hy, H⟩
 intro f
 induction f with
 | zero =>
  intro listed F G a hdc hfree hr hy H hl
  have hun := (mem_ready.1 hr).1
  refine ⟨fun h => (by rw [h] at hr; cases hr), fun j hj => ?_⟩
  by_cases hji : j = i
  · subst hji
    exact base _ _ _ hy _ H
  · have h1 := seqB_memJ (H hl).1 j (ready_mono hj hji)
    have h2 := tailB_specJ hT hdc hj (Array.getElem?_eq_some_iff.1 hi).1 hin hun
    rw [h1] at h2; cases h2
 | succ f ih =>
  intro listed F G a hdc hfree hr hy H hl
  have hun := (mem_ready.1 hr).1
  refine ⟨fun h => (by rw [h] at hr; cases hr), fun j hj => ?_⟩
  by_cases hji : j = i
  · subst hji
    exact base _ _ _ hy _ H
  · have h1 := (H hl).2 j (ready_mono hj hji)
    obtain ⟨hjun, oj, hoj, hall⟩ := mem_ready.1 hj
    have hnot : ∀ e ∈ oj.after, Region.binds md e = true → e.on ≠ i := fun e he hb heq => by
     have h1 := hall e he hb
     rw [heq, getD_both hun] at h1
     cases h1
    have h2 := wfQ_put hoj (hfree j oj hoj hji hjun hnot) (fun cs b => hsel i oi cs b hi) (fun cs b => hsel j oj cs b hoj) hy h1
    have hfree' : ∀ k ok, ops[k]? = some ok → k ≠ i → (listed.setIfInBounds j true).getD k true = false →
      (∀ e ∈ ok.after, Region.binds md e = true → e.on ≠ i) → oi.apart ops ok = true := fun k ok hk hki hun hno => by
     refine hfree k ok hk hki ?_ hno
     by_cases hjk : j = k
     · subst hjk; exact hjun
     · rw [getD_set_ne true hjk] at hun; exact hun
    refine wfQ_mono (fun F' G' a' h3 => ih (listed.setIfInBounds j true) F' G' a' (hdc.set hj) hfree' (ready_mono hr (Ne.symm hji)) h3.1 ?_) h2
    rw [Array.setIfInBounds_comm _ _ hji]
    exact h3.2
def onlyQ (md : Region.Mode) (ops : Array Oper) (i : Nat) : Nat → Array Bool → Bool
  | 0, listed => decide (Region.ready md ops listed = [i])
  | f + 1, listed => (Region.ready md ops listed).contains i && (Region.ready md ops listed).all fun j => j == i || match ops[i]?, ops[j]? with
      | some oi, some oj => isFresh oj && oi.apart ops oj && onlyQ md ops i f (listed.setIfInBounds j true)
      | _, _ => false
theorem FreshQ.back {oi oj : Oper} {a : Act} {v : Value} {ob : Obj} (hsj : ∀ cs b, oj.op ≠ .select cs b) (hap : oi.apart ops oj = true) (h : FreshQ P ops oj (a.put oi.dst v) ob) : FreshQ P ops oj a ob := by
 obtain ⟨p1, p2, p3⟩ := Oper.apart_spec hap
 unfold FreshQ at *
 rw [execOp_put oj hsj a oi.dst v p1, wanted_put oj a oi.dst v p1] at h
 exact h
theorem wpQ_callfirst {i : Nat} {n : List Nat} {oi : Oper} {L : GK} (hsel : ∀ (j : Nat) (o : Oper) cs b, ops[j]? = some o → o.op ≠ .select cs b) (hi : ops[i]? = some oi) (hai : isFresh oi = false) :
  ∀ (f : Nat) (listed : Array Bool) (F : World → Prop) (G : List (Nat × Obj)) (a : Act), onlyQ md ops i f listed = true →
   CallX P ops N W0 oi a (wpQ P md ops N W0 n L f (listed.setIfInBounds i true)) F G →
   wpQ P md ops N W0 n L (f + 1) listed F G a := by
 intro f
 induction f with
 | zero =>
  intro listed F G a hB hx hl
  simp only [onlyQ, decide_eq_true_eq] at hB
  refine ⟨fun h => (by rw [h] at hB; cases hB), fun j hj => ?_⟩
  rw [hB] at hj
  obtain rfl : j = i := by simpa using hj
  unfold wfQ
  simp only [hi]
  rw [if_neg (by rw [hai]; exact Bool.false_ne_true)]
  exact .inr (.inr hx)
 | succ f ih =>
  intro listed F G a hB hx hl
  simp only [onlyQ, Bool.and_eq_true, List.all_eq_true] at hB
  obtain ⟨hr, hall⟩ := hB
  have hr : i ∈ Region.ready md ops listed := by simpa using hr
  refine ⟨fun h => (by rw [h] at hr; cases hr), fun j hj => ?_⟩
  by_cases hji : j = i
  · subst hji
    unfold wfQ
    simp only [hi]
    rw [if_neg (by rw [hai]; exact Bool.false_ne_true)]
    exact .inr (.inr hx)
  · have h1 := hall j hj
    obtain ⟨hjun, oj, hoj, _⟩ := mem_ready.1 hj
    simp only [hi, hoj, Bool.or_eq_true, beq_iff_eq, hji, false_or, Bool.and_eq_true] at h1
    obtain ⟨⟨haj, hap⟩, hon⟩ := h1
    obtain ⟨p1, p2, p3⟩ := Oper.apart_spec hap
    have hsj := fun cs b => hsel j oj cs b hoj
    obtain ⟨ob, hfr⟩ : ∃ ob, FreshQ P ops oj a ob := by
     obtain ⟨hC, W, hF, hS⟩ := hl
     obtain ⟨v, F', w'', hb, hF', hC', hk⟩ := givesX_live (hx.2 W hF hS)
     have h3 := (hk ⟨hC.and hC', w'', ⟨hC _ _ hF hb, hF'⟩, hS.below hb⟩).2 j (ready_mono hj hji)
     unfold wfQ at h3
     simp only [hoj] at h3
     rw [if_pos haj] at h3
     obtain ⟨ob', hf', _⟩ := h3
     exact ⟨ob', hf'.back hsj hap⟩
    unfold wfQ
    simp only [hoj]
    rw [if_pos haj]
    refine ⟨ob, hfr, fun g hN hG => ih (listed.setIfInBounds j true) F ((g, ob) :: G) _ hon ⟨?_, fun W hF hS => ?_⟩⟩
    · rw [wanted_put oi a oj.dst _ p3]; exact hx.1
    · have h2 := hx.2 W hF hS.weak
      rw [execOp_put oi (fun cs b => hsel i oi cs b hi) a oj.dst _ p3]
      refine givesX_mono (fun v F' hk => wpQ_live fun hl' => ?_) _ h2
      have h3 := (hk hl'.weak).2 j (ready_mono hj hji)
      unfold wfQ at h3
      simp only [hoj] at h3
      rw [if_pos haj] at h3
      obtain ⟨ob', hf', hk'⟩ := h3
      have hobe : ob = ob' := freshQ_ob hfr (hf'.back hsj hap) rfl W
      subst hobe
      have h4 := hk' g hN hG
      rw [Array.setIfInBounds_comm _ _ (Ne.symm hji), Act.put_comm a _ v (fun d hd => fun h => p2 d h hd)] at *
      exact h4
theorem wpQ_freshfirst {i : Nat} {n : List Nat} {oi : Oper} {L : GK} (hL : LInv L) (hsel : ∀ (j : Nat) (o : Oper) cs b, ops[j]? = some o → o.op ≠ .select cs b) (hi : ops[i]? = some oi) (hai : isFresh oi = true) (ob : Obj) :
  ∀ (f : Nat) (listed : Array Bool) (F : World → Prop) (G : List (Nat × Obj)) (a : Act), onlyQ md ops i f listed = true → FreshQ P ops oi a ob →
   (∀ g, N ≤ g → (∀ p ∈ G, p.1 ≠ g) → wpQ P md ops N W0 n L f (listed.setIfInBounds i true) F ((g, ob) :: G) (a.put oi.dst (freshV oi g))) →
   wpQ P md ops N W0 n L (f + 1) listed F G a := by
 have here : ∀ (K : GK) (F : World → Prop) (G : List (Nat × Obj)) (a : Act), FreshQ P ops oi a ob → (∀ g, N ≤ g → (∀ p ∈ G, p.1 ≠ g) → K F ((g, ob) :: G) (a.put oi.dst (freshV oi g))) → wfQ P ops N W0 i K F G a := by
  intro K F G a hfr hk
  unfold wfQ
  simp only [hi]
  rw [if_pos hai]
  exact ⟨ob, hfr, hk⟩
 intro f
 induction f with
 | zero =>
  intro listed F G a hB hfr hx hl
  simp only [onlyQ, decide_eq_true_eq] at hB
  refine ⟨fun h => (by rw [h] at hB; cases hB), fun j hj => ?_⟩
  rw [hB] at hj
  obtain rfl : j = i := by simpa using hj
  exact here _ _ _ _ hfr hx
 | succ f ih =>
  intro listed F G a hB hfr hx hl
  simp only [onlyQ, Bool.and_eq_true, List.all_eq_true] at hB
  obtain ⟨hr, hall⟩ := hB
  have hr : i ∈ Region.ready md ops listed := by simpa using hr
  refine ⟨fun h => (by rw [h] at hr; cases hr), fun j hj => ?_⟩
  by_cases hji : j = i
  · subst hji; exact here _ _ _ _ hfr hx
  · have h1 := hall j hj
    obtain ⟨hjun, oj, hoj, _⟩ := mem_ready.1 hj
    simp only [hi, hoj, Bool.or_eq_true, beq_iff_eq, hji, false_or, Bool.and_eq_true] at h1
    obtain ⟨⟨haj, hap⟩, hon⟩ := h1
    obtain ⟨p1, p2, p3⟩ := Oper.apart_spec hap
    have hsi := fun cs b => hsel i oi cs b hi
    have hsj := fun cs b => hsel j oj cs b hoj
    have hgo : ∀ g, N ≤ g → (∀ p ∈ G, p.1 ≠ g) → Live N W0 F ((g, ob) :: G) → ∃ obj, FreshQ P ops oj a obj ∧ ∀ g', N ≤ g' → (∀ p ∈ (g, ob) :: G, p.1 ≠ g') → wpQ P md ops N W0 n L f ((listed.setIfInBounds i true).setIfInBounds j true) F ((g', obj) :: (g, ob) :: G) ((a.put oi.dst (freshV oi g)).put oj.dst (freshV oj g')) := by
     intro g hN hG hl'
     have h3 := (hx g hN hG hl').2 j (ready_mono hj hji)
     unfold wfQ at h3
     simp only [hoj] at h3
     rw [if_pos haj] at h3
     obtain ⟨ob', hf', hk'⟩ := h3
     exact ⟨ob', hf'.back hsj hap, hk'⟩
    obtain ⟨obj, hfrj⟩ : ∃ obj, FreshQ P ops oj a obj := by
     obtain ⟨g, hN, hG, hl'⟩ := hl.grow ob
     obtain ⟨obj, h, _⟩ := hgo g hN hG hl'
     exact ⟨obj, h⟩
    unfold wfQ
    simp only [hoj]
    rw [if_pos haj]
    refine ⟨obj, hfrj, fun g' hN' hG' => ih (listed.setIfInBounds j true) F ((g', obj) :: G) _ hon ?_ (fun g hN hG => wpQ_live fun hl' => ?_)⟩
    · unfold FreshQ
      rw [execOp_put oi hsi a oj.dst _ p3, wanted_put oi a oj.dst _ p3]
      exact hfr
    · have hne : g' ≠ g := hG (g', obj) (by simp)
      obtain ⟨ob', hf', hk'⟩ := hgo g hN (fun p hp => hG p (by simp [hp])) ((hl'.same (G' := (g', obj) :: (g, ob) :: G) (fun p => by simp only [List.mem_cons]; constructor <;> (rintro (h | h | h) <;> simp [h]))).weak)
      have hobe : obj = ob' := freshQ_ob hfrj hf' rfl W0
      subst hobe
      have h4 := hk' g' hN' (fun p hp => by
       rcases List.mem_cons.1 hp with rfl | hp
       · exact Ne.symm hne
       · exact hG' p hp)
      rw [Array.setIfInBounds_comm _ _ (Ne.symm hji), Act.put_comm a _ _ p2] at h4
      exact wpQ_same hL f _ _ _ _ _ (fun p => by simp only [List.mem_cons]; constructor <;> (rintro (h | h | h) <;> simp [h])) h4
theorem wpOp_of_wfQ {i : Nat} {a : Act} {w : World} {F : World → Prop} {G : List (Nat × Obj)} {K : GK} {K' : Act → World → Prop} {Q' : Exit → Act → World → Prop} (hF : F w) (hC : Cl F) (hS : SG N W0 G w)
  (h : ∀ F G a w, Cl F → F w → SG N W0 G w → K F G a → K' a w) (hh : wfQ P ops N W0 i K F G a) : wpOp P ops Q' i K' a w := by
 unfold wfQ at hh
 unfold wpOp
 split
 · rename_i ho; simp only [ho] at hh
 · rename_i o ho
   simp only [ho] at hh
   split at hh
   · obtain ⟨ob, ⟨hw, hf⟩, hk⟩ := hh
     rw [if_pos hw]
     refine .inl ?_
     unfold Oper.wp
     rw [hf w]
     exact h _ _ _ _ hC (hC _ _ hF ((Below.refl _ _).alloc (Nat.le_refl _) _)) (hS.alloc ob) (hk _ hS.1.1 (fun p hp e => by have := hS.size hp; omega))
   · rcases hh with ⟨v, hy, hk⟩ | ⟨hw, hx⟩ | ⟨hw, hx⟩
     · rcases hy with ⟨hw, hg⟩ | ⟨hw, rfl⟩
       · rw [if_pos hw]
         refine .inl ?_
         have hg := hg w hS.1
         unfold Oper.wp
         generalize (execOp a.eval o).run P w = r at *
         cases r with
         | ok nx w' =>
          cases nx <;> simp only [givesB, Oper.upon] at hg ⊢
          case value u => obtain ⟨rfl, h2⟩ := hg; exact h _ _ _ _ hC (hC _ _ hF h2) (hS.below h2) hk
          case skip => obtain ⟨rfl, h2⟩ := hg; exact h _ _ _ _ hC (hC _ _ hF h2) (hS.below h2) hk
          case enter f args => exact hg.mono fun e w'' ⟨he, hw⟩ => by subst he; exact h _ _ _ _ hC (hC _ _ hF hw) (hS.below hw) hk
         | halt x w' => simp only [givesB] at hg
       · rw [if_neg (by simp [hw])]
         exact h _ _ _ _ hC hF hS hk
     · rw [if_pos hw]
       refine .inl ?_
       have hg := hx w hF hS
       unfold Oper.wp
       generalize (execOp a.eval o).run P w = r at *
       cases r with
       | ok nx w' =>
        cases nx <;> simp only [givesW, Oper.upon] at hg ⊢
        case value u => obtain ⟨v, F', G', e1, hF', hC', hS', hk⟩ := hg; injection e1 with e1; subst e1; exact h _ _ _ _ hC' hF' hS' hk
        case skip => obtain ⟨v, F', G', e1, hF', hC', hS', hk⟩ := hg; injection e1 with e1; subst e1; exact h _ _ _ _ hC' hF' hS' hk
        case enter f args => exact hg.mono fun e w'' ⟨v, F', G', e1, hF', hC', hS', hk⟩ => by subst e1; exact h _ _ _ _ hC' hF' hS' hk
       | halt x w' => simp only [givesW] at hg
     · rw [if_pos hw]
       refine .inl ?_
       have hg := hx w hF hS
       unfold Oper.wp
       generalize (execOp a.eval o).run P w = r at *
       cases r with
       | ok nx w' =>
        cases nx <;> simp only [givesX, Oper.upon] at hg ⊢
        case value u => obtain ⟨F', hb, hF', hC', hk⟩ := hg; exact h _ _ _ _ (hC.and hC') ⟨hC _ _ hF hb, hF'⟩ (hS.below hb) hk
        case skip => obtain ⟨F', hb, hF', hC', hk⟩ := hg; exact h _ _ _ _ (hC.and hC') ⟨hC _ _ hF hb, hF'⟩ (hS.below hb) hk
        case enter f args => exact hg.mono fun e w'' ⟨v, F', he, hb, hF', hC', hk⟩ => by subst he; exact h _ _ _ _ (hC.and hC') ⟨hC _ _ hF hb, hF'⟩ (hS.below hb) hk
       | halt x w' => simp only [givesX] at hg
theorem wpAny_of_wpQ {n : List Nat} {L : GK} {Q' : Exit → Act → World → Prop} (hn : ∀ j ∈ n, j < ops.size) (hL : ∀ F G a w, F w → SG N W0 G w → L F G a → wpList P ops Q' (n.filterMap (fun i => ops[i]?)) a w) :
  ∀ (f : Nat) (listed : Array Bool) (F : World → Prop) (G : List (Nat × Obj)) (a : Act) (w : World), Cl F → F w → SG N W0 G w → wpQ P md ops N W0 n L f listed F G a → wpAny P md ops Q' (f + n.length) listed a w
 | 0, listed, F, G, a, w, hC, hF, hS, h => by
  rw [Nat.zero_add]
  have h := h ⟨hC, w, hF, hS⟩
  exact wpAny_of_seqJ n listed a w hn h.1 (hL _ _ _ _ hF hS h.2)
 | f + 1, listed, F, G, a, w, hC, hF, hS, h => by
  rw [show f + 1 + n.length = (f + n.length) + 1 by omega]
  have h := h ⟨hC, w, hF, hS⟩
  exact ⟨fun h0 => absurd h0 h.1, fun i hi => wpOp_of_wfQ hF hC hS (fun F' G' a' w' hC' hF' hS' h' => wpAny_of_wpQ hn hL f _ F' G' a' w' hC' hF' hS' h') (h.2 i hi)⟩
theorem wp_region_floatQ {id : Nat} {Q : Exit → Act → World → Prop} {a : Act} {l : List Oper} {W0 : World} (N m : Nat) (n : List Nat) (hN : N ≤ W0.heap.size) (F0 : World → Prop) (hF0 : F0 W0) (hC0 : Cl F0) (hm : P.follows .mixedOrders = true) (hn : (decide (m + n.length = l.length) && n.all (fun j => decide (j < l.length))) = true)
  (h : wpQ P .any l.toArray N W0 n (fun F G a' => ∀ w', F w' → SG N W0 G w' → wpList P l.toArray Q (n.filterMap (fun i => l[i]?)) a' w') m (Array.replicate l.length false) F0 [] a) : (Code.region id l.toArray true).wp P Q a W0 := by
 simp only [Bool.and_eq_true, decide_eq_true_eq, List.all_eq_true] at hn
 refine wp_region_any hm ?_
 have := wpAny_of_wpQ (Q' := Q) (ops := l.toArray) (fun j hj => by simpa using hn.2 j hj) (fun F G a w hF hS hL => by simpa using hL w hF hS) _ _ _ [] a W0.drew hC0 (hC0 _ _ hF0 (Below.refl _ _).drew) ⟨(Own.refl hN).drew, fun p hp => by cases hp⟩ h
 rw [hn.1] at this
 simpa using this
def stepBQ (md : Region.Mode) (ops : Array Oper) (n : List Nat) (i : Nat) (listed : Array Bool) : Bool :=
  tailBJ md ops n && dcB md ops listed && (!n.contains i) && (Region.ready md ops listed).contains i && Region.free md ops listed i && match ops[i]? with | some o => !isFresh o | none => false
theorem stepB_specQ {n : List Nat} {i : Nat} {listed : Array Bool} {o : Oper} (hi : ops[i]? = some o) (h : stepBQ md ops n i listed = true) :
  (tailBJ md ops n = true ∧ dcB md ops listed = true) ∧ n.contains i = false ∧ i ∈ Region.ready md ops listed ∧ Region.free md ops listed i = true ∧ isFresh o = false := by
 simp only [stepBQ, hi, Bool.and_eq_true, Bool.not_eq_true'] at h
 obtain ⟨⟨⟨⟨⟨a, a'⟩, b⟩, c⟩, d⟩, e⟩ := h
 exact ⟨⟨a, a'⟩, b, by simpa using c, d, e⟩
theorem wpQ_step {i f : Nat} {n : List Nat} {o : Oper} {L : GK} {listed : Array Bool} {F : World → Prop} {G : List (Nat × Obj)} {a : Act} (hi : ops[i]? = some o) (hB : stepBQ md ops n i listed = true) (hg : o.guard = none) (v : Value)
  (h : GivesH P N W0 o a v) (hk : ∀ K : Act → Prop, (∀ a, wpQ P md ops N W0 n L f (listed.setIfInBounds i true) F G a → K a) → K (a.put o.dst v)) : wpQ P md ops N W0 n L (f + 1) listed F G a := by
 obtain ⟨h1, h2, h3, h4, h5⟩ := stepB_specQ hi hB
 exact wpQ_first h1.1 h2 hi h5 f listed F G a (dcB_spec h1.2) (Region.free_spec hi h4) h3 (.inl ⟨by simp [Region.wanted, hg], h⟩) (hk _ fun _ h => h)
theorem wpQ_step_on {i f : Nat} {n : List Nat} {o : Oper} {L : GK} {listed : Array Bool} {F : World → Prop} {G : List (Nat × Obj)} {a : Act} (hi : ops[i]? = some o) (hB : stepBQ md ops n i listed = true) (hg : Region.wanted o (yielded ops a.tmps) = true) (v : Value)
  (h : GivesH P N W0 o a v) (hk : ∀ K : Act → Prop, (∀ a, wpQ P md ops N W0 n L f (listed.setIfInBounds i true) F G a → K a) → K (a.put o.dst v)) : wpQ P md ops N W0 n L (f + 1) listed F G a := by
 obtain ⟨h1, h2, h3, h4, h5⟩ := stepB_specQ hi hB
 exact wpQ_first h1.1 h2 hi h5 f listed F G a (dcB_spec h1.2) (Region.free_spec hi h4) h3 (.inl ⟨hg, h⟩) (hk _ fun _ h => h)
theorem wpQ_step_off {i f : Nat} {n : List Nat} {o : Oper} {L : GK} {listed : Array Bool} {F : World → Prop} {G : List (Nat × Obj)} {a : Act} (hi : ops[i]? = some o) (hB : stepBQ md ops n i listed = true) (hg : Region.wanted o (yielded ops a.tmps) = false)
  (hk : ∀ K : Act → Prop, (∀ a, wpQ P md ops N W0 n L f (listed.setIfInBounds i true) F G a → K a) → K (a.put o.dst undef)) : wpQ P md ops N W0 n L (f + 1) listed F G a := by
 obtain ⟨h1, h2, h3, h4, h5⟩ := stepB_specQ hi hB
 exact wpQ_first h1.1 h2 hi h5 f listed F G a (dcB_spec h1.2) (Region.free_spec hi h4) h3 (.inr ⟨hg, rfl⟩) (hk _ fun _ h => h)
theorem wpQ_wild {i f : Nat} {n : List Nat} {o : Oper} {L : GK} {listed : Array Bool} {F : World → Prop} {G : List (Nat × Obj)} {a : Act} (hi : ops[i]? = some o) (hB : decide (Region.ready md ops listed = [i]) = true) (hg : (o.guard.isNone && !isFresh o) = true)
  (h : ∀ W, F W → SG N W0 G W → givesW P N W0 (fun v F' G' => ∀ K : Act → Prop, (∀ a, wpQ P md ops N W0 n L f (listed.setIfInBounds i true) F' G' a → K a) → K (a.put o.dst v)) ((execOp a.eval o).run P W)) : wpQ P md ops N W0 n L (f + 1) listed F G a := by
 rw [decide_eq_true_eq] at hB
 rw [Bool.and_eq_true, Bool.not_eq_true'] at hg
 refine fun _ => ⟨fun h0 => (by rw [h0] at hB; cases hB), fun j hj => ?_⟩
 rw [hB] at hj
 obtain rfl : j = i := by simpa using hj
 unfold wfQ
 simp only [hi]
 rw [if_neg (by rw [hg.2]; exact Bool.false_ne_true)]
 exact .inr (.inl ⟨by have := hg.1; simp [Region.wanted, Option.isNone_iff_eq_none.1 this], fun W hF hS => givesW_mono (fun v F' G' hk => hk _ fun _ h => h) _ (h W hF hS)⟩)
def wpQI (P : Program) (md : Region.Mode) (ops : Array Oper) (N : Nat) (W0 : World) (n : List Nat) (L : GK) (_ : List Nat) (m : Nat) (listed : Array Bool) (F : World → Prop) (G : List (Nat × Obj)) (a : Act) : Prop := wpQ P md ops N W0 n L m listed F G a
theorem wpQI_start {m : Nat} {n : List Nat} {L : GK} {listed : Array Bool} {F : World → Prop} {G : List (Nat × Obj)} {a : Act} (is : List Nat) (h : wpQI P md ops N W0 n L is m listed F G a) : wpQ P md ops N W0 n L m listed F G a := h
theorem wpQI_nil {m : Nat} {n : List Nat} {L : GK} {listed : Array Bool} {F : World → Prop} {G : List (Nat × Obj)} {a : Act} (h : wpQ P md ops N W0 n L m listed F G a) : wpQI P md ops N W0 n L [] m listed F G a := h
theorem wpQI_step {i f : Nat} {n : List Nat} {is : List Nat} {o : Oper} {L : GK} {listed : Array Bool} {F : World → Prop} {G : List (Nat × Obj)} {a : Act} (hi : ops[i]? = some o) (hB : stepBQ md ops n i listed = true) (hg : o.guard = none) (v : Value)
  (h : GivesH P N W0 o a v) (hk : ∀ K : Act → Prop, (∀ a, wpQI P md ops N W0 n L is f (listed.setIfInBounds i true) F G a → K a) → K (a.put o.dst v)) : wpQI P md ops N W0 n L (i :: is) (f + 1) listed F G a := wpQ_step hi hB hg v h hk
theorem wpQI_on {i f : Nat} {n : List Nat} {is : List Nat} {o : Oper} {L : GK} {listed : Array Bool} {F : World → Prop} {G : List (Nat × Obj)} {a : Act} (hi : ops[i]? = some o) (hB : stepBQ md ops n i listed = true) (hg : Region.wanted o (yielded ops a.tmps) = true) (v : Value)
  (h : GivesH P N W0 o a v) (hk : ∀ K : Act → Prop, (∀ a, wpQI P md ops N W0 n L is f (listed.setIfInBounds i true) F G a → K a) → K (a.put o.dst v)) : wpQI P md ops N W0 n L (i :: is) (f + 1) listed F G a := wpQ_step_on hi hB hg v h hk
theorem wpQI_off {i f : Nat} {n : List Nat} {is : List Nat} {o : Oper} {L : GK} {listed : Array Bool} {F : World → Prop} {G : List (Nat × Obj)} {a : Act} (hi : ops[i]? = some o) (hB : stepBQ md ops n i listed = true) (hg : Region.wanted o (yielded ops a.tmps) = false)
  (hk : ∀ K : Act → Prop, (∀ a, wpQI P md ops N W0 n L is f (listed.setIfInBounds i true) F G a → K a) → K (a.put o.dst undef)) : wpQI P md ops N W0 n L (i :: is) (f + 1) listed F G a := wpQ_step_off hi hB hg hk
theorem wpQ_done {n : List Nat} {L : GK} {listed : Array Bool} {F : World → Prop} {G : List (Nat × Obj)} {a : Act} (hB : seqJ md ops n listed = true) (h : L F G a) : wpQ P md ops N W0 n L 0 listed F G a := fun _ => ⟨hB, h⟩
theorem LInv.std {l : List Oper} {Q : Exit → Act → World → Prop} {n : List Oper} : LInv (fun F G a' => ∀ w', F w' → SG N W0 G w' → wpList P l.toArray Q n a' w') := fun F G G' a h hL w' hF hS => hL w' hF (hS.same (fun p => (h p).symm))
end
section
variable {P : Program} {ops : Array Oper} {md : Region.Mode} {S : World → Prop} {Q : Exit → Act → World → Prop}
def Steady (P : Program) (ops : Array Oper) (S : World → Prop) (o : Oper) (v : Value) (a : Act) : Prop :=
  (Region.wanted o (yielded ops a.tmps) = true ∧ ∀ w, S w → (execOp a.eval o).run P w = .ok (.value v) w) ∨
  (Region.wanted o (yielded ops a.tmps) = false ∧ v = undef)
theorem Steady.of_same {o : Oper} {v : Value} {a a' : Act} (hy : Steady P ops S o v a) (he : execOp a'.eval o = execOp a.eval o)
  (hw : Region.wanted o (yielded ops a'.tmps) = Region.wanted o (yielded ops a.tmps)) : Steady P ops S o v a' := by
 unfold Steady at *
 rw [he, hw]
 exact hy
theorem Steady.wpOp {i : Nat} {o : Oper} {v : Value} {a : Act} (hi : ops[i]? = some o) (hy : Steady P ops S o v a)
  {K : Act → World → Prop} {w : World} (hS : S w) (h : K (a.put o.dst v) w) : wpOp P ops Q i K a w := by
 unfold Go.wpOp
 simp only [hi]
 rcases hy with ⟨hw, hv⟩ | ⟨hw, rfl⟩
 · simp only [hw, if_true, Oper.wp, hv w hS, Oper.upon]; exact .inl h
 · simp only [hw, Bool.false_eq_true, if_false]; exact h
theorem wpOpZ_put {j : Nat} {oi oj : Oper} {v : Value} (hj : ops[j]? = some oj) (hap : oi.apart ops oj = true)
  (hsi : ∀ cs b, oi.op ≠ .select cs b) (hsj : ∀ cs b, oj.op ≠ .select cs b)
  (hQ : ∀ c a w, Q (.panic c) (a.put oi.dst v) w → Q (.panic c) a w) {K : Act → World → Prop} {a : Act} {w : World}
  (hy : Steady P ops S oi v a) (h : wpOp P ops Q j K (a.put oi.dst v) w) :
  wpOp P ops Q j (fun a' w' => Steady P ops S oi v a' ∧ K (a'.put oi.dst v) w') a w := by
 obtain ⟨h1, h2, h3⟩ := Oper.apart_spec hap
 have keep : ∀ (a : Act), Steady P ops S oi v a → ∀ u, Steady P ops S oi v (a.put oj.dst u) := fun a hy u =>
  hy.of_same (execOp_put oi hsi a oj.dst u h3) (wanted_put oi a oj.dst u h3)
 have keepD : ∀ d, Steady P ops S oi v { a with defers := d :: a.defers } := fun d => hy.of_same rfl rfl
 unfold wpOp at *
 simp only [hj] at *
 rw [wanted_put oj a oi.dst v h1] at h
 split
 · rename_i hw
   simp only [hw, if_true] at h
   rcases h with h | ⟨hasks, hlets⟩
   case inr => exact .inr ⟨by unfold Oper.asks at *; rw [execOp_put oj hsj a oi.dst v h1] at hasks; exact hasks, hlets⟩
   refine .inl ?_
   unfold Oper.wp at *
   rw [execOp_put oj hsj a oi.dst v h1] at h
   generalize (execOp a.eval oj).run P w = r at *
   cases r with
   | ok n w' =>
    cases n <;> simp only [Oper.upon] at h ⊢
    case value u => exact ⟨keep a hy u, by rw [← Act.put_comm a v u h2]; exact h⟩
    case skip => exact ⟨keep a hy _, by rw [← Act.put_comm a v undef h2]; exact h⟩
    case defer d =>
     refine ⟨keep _ (keepD d) _, ?_⟩
     rw [← Act.put_comm _ v undef h2, ← Act.put_defers]
     exact h
    case enter f args =>
     refine Calls.mono h fun e w'' he => ?_
     cases e with
     | returned u => exact ⟨keep a hy u, by rw [← Act.put_comm a v u h2]; exact he⟩
     | panicked c => exact hQ _ _ _ he
     | outgrown => exact he
    case row row args => exact Rows.mono h fun u w'' he => ⟨keep a hy u, by rw [← Act.put_comm a v u h2]; exact he⟩
   | halt x w' =>
    cases x <;> simp only [Oper.upon] at h ⊢
    case panic u => exact hQ _ _ _ h
 · rename_i hw
   simp only [hw] at h
   exact ⟨keep a hy _, by rw [← Act.put_comm a v undef h2]; exact h⟩
def wpZ (P : Program) (md : Region.Mode) (ops : Array Oper) (S : World → Prop) (Q : Exit → Act → World → Prop) (n : List Nat) (L : Act → World → Prop) : Nat → Array Bool → Act → World → Prop
  | 0, listed, a, w => seqJ md ops n listed = true ∧ L a w
  | f + 1, listed, a, w => Region.ready md ops listed ≠ [] ∧ ∀ i ∈ Region.ready md ops listed, wpOp P ops Q i (fun a' w' => S w' ∧ wpZ P md ops S Q n L f (listed.setIfInBounds i true) a' w') a w
theorem wpZ_first {i : Nat} {n : List Nat} {oi : Oper} {v : Value} {L : Act → World → Prop} (hT : tailBJ md ops n = true) (hin : n.contains i = false) (hi : ops[i]? = some oi)
  (hQ : ∀ c a w, Q (.panic c) (a.put oi.dst v) w → Q (.panic c) a w) :
  ∀ (f : Nat) (listed : Array Bool) (a : Act) (w : World),
   DC md ops listed → (∀ j oj, ops[j]? = some oj → j ≠ i → listed.getD j true = false → (∀ e ∈ oj.after, Region.binds md e = true → e.on ≠ i) → oi.apart ops oj = true) →
   i ∈ Region.ready md ops listed → Steady P ops S oi v a → S w →
   wpZ P md ops S Q n L f (listed.setIfInBounds i true) (a.put oi.dst v) w → wpZ P md ops S Q n L (f + 1) listed a w := by
 have hsel := Region.noSelect_spec (by have := hT; unfold tailBJ at this; rw [Bool.and_eq_true] at this; exact this.1)
 intro f
 induction f with
 | zero =>
  intro listed a w hdc hfree hr hy hS H
  have hun := (mem_ready.1 hr).1
  refine ⟨fun h => (by rw [h] at hr; cases hr), fun j hj => ?_⟩
  by_cases hji : j = i
  · subst hji
    exact hy.wpOp hi hS ⟨hS, H⟩
  · have h1 := seqB_memJ H.1 j (ready_mono hj hji)
    have h2 := tailB_specJ hT hdc hj (Array.getElem?_eq_some_iff.1 hi).1 hin hun
    rw [h1] at h2; cases h2
 | succ f ih =>
  intro listed a w hdc hfree hr hy hS H
  have hun := (mem_ready.1 hr).1
  refine ⟨fun h => (by rw [h] at hr; cases hr), fun j hj => ?_⟩
  by_cases hji : j = i
  · subst hji
    exact hy.wpOp hi hS ⟨hS, H⟩
  · have h1 := H.2 j (ready_mono hj hji)
    obtain ⟨hjun, oj, hoj, hall⟩ := mem_ready.1 hj
    have hnot : ∀ e ∈ oj.after, Region.binds md e = true → e.on ≠ i := fun e he hb heq => by
     have h1 := hall e he hb
     rw [heq, getD_both hun] at h1
     cases h1
    have h2 := wpOpZ_put hoj (hfree j oj hoj hji hjun hnot) (fun cs b => hsel i oi cs b hi) (fun cs b => hsel j oj cs b hoj) hQ hy h1
    have hfree' : ∀ k ok, ops[k]? = some ok → k ≠ i → (listed.setIfInBounds j true).getD k true = false →
      (∀ e ∈ ok.after, Region.binds md e = true → e.on ≠ i) → oi.apart ops ok = true := fun k ok hk hki hun hno => by
     refine hfree k ok hk hki ?_ hno
     by_cases hjk : j = k
     · subst hjk; exact hjun
     · rw [getD_set_ne true hjk] at hun; exact hun
    refine wpOp_mono (fun a' w' h3 => ⟨h3.2.1, ih (listed.setIfInBounds j true) a' w' (hdc.set hj) hfree' (ready_mono hr (Ne.symm hji)) h3.1 h3.2.1 ?_⟩) h2
    rw [Array.setIfInBounds_comm _ _ hji]
    exact h3.2.2
theorem wpAny_of_wpZ {n : List Nat} {L : Act → World → Prop} (hn : ∀ j ∈ n, j < ops.size) (hL : ∀ a w, L a w → wpList P ops Q (n.filterMap (fun i => ops[i]?)) a w) :
  ∀ (f : Nat) (listed : Array Bool) (a : Act) (w : World), wpZ P md ops S Q n L f listed a w → wpAny P md ops Q (f + n.length) listed a w
 | 0, listed, a, w, h => by
  rw [Nat.zero_add]
  exact wpAny_of_seqJ n listed a w hn h.1 (hL _ _ h.2)
 | f + 1, listed, a, w, h => by
  rw [show f + 1 + n.length = (f + n.length) + 1 by omega]
  exact ⟨fun h0 => absurd h0 h.1, fun i hi => wpOp_mono (fun a' w' h' => wpAny_of_wpZ hn hL f _ a' w' h'.2) (h.2 i hi)⟩
theorem wp_region_Z {id : Nat} {a : Act} {w : World} {l : List Oper} (S : World → Prop) (m : Nat) (n : List Nat) (hm : P.follows .mixedOrders = true) (hn : (decide (m + n.length = l.length) && n.all (fun j => decide (j < l.length))) = true)
  (h : wpZ P .any l.toArray S Q n (fun a' w' => wpList P l.toArray Q (n.filterMap (fun i => l[i]?)) a' w') m (Array.replicate l.length false) a w.drew) : (Code.region id l.toArray true).wp P Q a w := by
 simp only [Bool.and_eq_true, decide_eq_true_eq, List.all_eq_true] at hn
 refine wp_region_any hm ?_
 have := wpAny_of_wpZ (Q := Q) (ops := l.toArray) (fun j hj => by simpa using hn.2 j hj) (fun a w hL => by simpa using hL) _ _ a w.drew h
 rw [hn.1] at this
 simpa using this
def stepBZ (md : Region.Mode) (ops : Array Oper) (n : List Nat) (i : Nat) (listed : Array Bool) : Bool :=
  tailBJ md ops n && dcB md ops listed && (!n.contains i) && (Region.ready md ops listed).contains i && Region.free md ops listed i
theorem stepB_specZ {n : List Nat} {i : Nat} {listed : Array Bool} {o : Oper} (hi : ops[i]? = some o) (h : stepBZ md ops n i listed = true) :
  (tailBJ md ops n = true ∧ dcB md ops listed = true) ∧ n.contains i = false ∧ i ∈ Region.ready md ops listed ∧ Region.free md ops listed i = true := by
 simp only [stepBZ, Bool.and_eq_true, Bool.not_eq_true'] at h
 obtain ⟨⟨⟨⟨a, a'⟩, b⟩, c⟩, d⟩ := h
 exact ⟨⟨a, a'⟩, b, by simpa using c, d⟩
theorem wpZ_step {i f : Nat} {n : List Nat} {o : Oper} {L : Act → World → Prop} {listed : Array Bool} {a : Act} {w : World} (hi : ops[i]? = some o) (hB : stepBZ md ops n i listed = true) (hg : o.guard = none) (v : Value)
  (hQ : ∀ c a w, Q (.panic c) (a.put o.dst v) w → Q (.panic c) a w) (hS : S w)
  (h : ∀ w, S w → (execOp a.eval o).run P w = .ok (.value v) w) (hk : ∀ K : Act → World → Prop, (∀ a w, wpZ P md ops S Q n L f (listed.setIfInBounds i true) a w → K a w) → K (a.put o.dst v) w) : wpZ P md ops S Q n L (f + 1) listed a w := by
 obtain ⟨h1, h2, h3, h4⟩ := stepB_specZ hi hB
 exact wpZ_first h1.1 h2 hi hQ f listed a w (dcB_spec h1.2) (Region.free_spec hi h4) h3 (.inl ⟨by simp [Region.wanted, hg], h⟩) hS (hk _ fun _ _ h => h)
theorem wpZ_one {i f : Nat} {n : List Nat} {o : Oper} {L : Act → World → Prop} {listed : Array Bool} {a : Act} {w : World} (hi : ops[i]? = some o) (hB : decide (Region.ready md ops listed = [i]) = true) (hg : o.guard = none)
  (hk : ∀ K : Act → World → Prop, (∀ a w, wpZ P md ops S Q n L f (listed.setIfInBounds i true) a w → K a w) → Oper.upon P o a (fun a' w' => S w' ∧ K a' w') Q ((execOp a.eval o).run P w)) : wpZ P md ops S Q n L (f + 1) listed a w := by
 rw [decide_eq_true_eq] at hB
 refine ⟨fun h0 => (by rw [h0] at hB; cases hB), fun j hj => ?_⟩
 rw [hB] at hj
 obtain rfl : j = i := by simpa using hj
 unfold wpOp
 simp only [hi]
 rw [if_pos (by simp [Region.wanted, hg])]
 exact .inl (hk _ fun _ _ h => h)
theorem wpZ_nil {n : List Nat} {L : Act → World → Prop} {listed : Array Bool} {a : Act} {w : World} (hB : seqJ md ops n listed = true) (h : L a w) : wpZ P md ops S Q n L 0 listed a w := ⟨hB, h⟩
end
section
variable {P : Program} {ops : Array Oper} {md : Region.Mode} {S : World → Prop} {Q : Exit → Act → World → Prop}
def opt (b : Bool) (v : Value) : Value := if b = true then v else undef
theorem opt_true {v : Value} : opt true v = v := rfl
theorem wpZ_freshm {i f : Nat} {n : List Nat} {o : Oper} {L : Act → World → Prop} {listed : Array Bool} {a : Act} {w : World} (hi : ops[i]? = some o) (hB : decide (Region.ready md ops listed = [i]) = true) (b : Bool) (hg : Region.wanted o (yielded ops a.tmps) = b) (v : Value) (ob : Obj)
  (h : b = true → (execOp a.eval o).run P w = .ok (.value v) (w.alloc ob)) (hS : S w) (hS' : S (w.alloc ob))
  (hk : ∀ K : Act → World → Prop, (∀ a w, wpZ P md ops S Q n L f (listed.setIfInBounds i true) a w → K a w) → ∀ w', S w' → (b = true → w' = w.alloc ob) → K (a.put o.dst (opt b v)) w') : wpZ P md ops S Q n L (f + 1) listed a w := by
 rw [decide_eq_true_eq] at hB
 refine ⟨fun h0 => (by rw [h0] at hB; cases hB), fun j hj => ?_⟩
 rw [hB] at hj
 obtain rfl : j = i := by simpa using hj
 unfold wpOp
 simp only [hi]
 cases b with
 | true =>
  rw [if_pos hg]
  refine .inl ?_
  unfold Oper.wp
  rw [h rfl]
  exact ⟨hS', hk _ (fun _ _ h => h) _ hS' fun _ => rfl⟩
 | false =>
  rw [if_neg (by rw [hg]; simp)]
  exact ⟨hS, hk _ (fun _ _ h => h) _ hS fun h => by cases h⟩
theorem wpZ_callm {i f : Nat} {n : List Nat} {o : Oper} {L : Act → World → Prop} {listed : Array Bool} {a : Act} {w : World} (hi : ops[i]? = some o) (hB : decide (Region.ready md ops listed = [i]) = true) (b : Bool) (hg : Region.wanted o (yielded ops a.tmps) = b) (v : Value)
  (h : b = true → ∀ N : Act → World → Prop, (∀ w', S w' → N (a.put o.dst v) w') → Oper.upon P o a N Q ((execOp a.eval o).run P w)) (hS : S w)
  (hk : ∀ K : Act → World → Prop, (∀ a w, wpZ P md ops S Q n L f (listed.setIfInBounds i true) a w → K a w) → ∀ w', S w' → K (a.put o.dst (opt b v)) w') : wpZ P md ops S Q n L (f + 1) listed a w := by
 rw [decide_eq_true_eq] at hB
 refine ⟨fun h0 => (by rw [h0] at hB; cases hB), fun j hj => ?_⟩
 rw [hB] at hj
 obtain rfl : j = i := by simpa using hj
 unfold wpOp
 simp only [hi]
 cases b with
 | true =>
  rw [if_pos hg]
  exact .inl (h rfl _ fun w' hw => ⟨hw, hk _ (fun _ _ h => h) w' hw⟩)
 | false =>
  rw [if_neg (by rw [hg]; simp)]
  exact ⟨hS, hk _ (fun _ _ h => h) w hS⟩
theorem wpL_maybe {o : Oper} {rest : List Oper} {a : Act} {w : World} (b : Bool) (hg : Region.wanted o (yielded ops a.tmps) = b) (v : Value) (h : b = true → (execOp a.eval o).run P w = .ok (.value v) w)
  (hk : ∀ K : Act → World → Prop, (∀ a w, wpList P ops Q rest a w → K a w) → K (a.put o.dst (opt b v)) w) : wpList P ops Q (o :: rest) a w := by
 have hk := hk _ fun _ _ h => h
 cases b with
 | true => exact BigFrame.wpList_want hg fun K hK => by unfold Oper.wp; rw [h rfl]; exact hK _ _ hk
 | false => exact wpList_skip hg hk
theorem wpL_freshm {o : Oper} {rest : List Oper} {a : Act} {w : World} (b : Bool) (hg : Region.wanted o (yielded ops a.tmps) = b) (v : Value) (ob : Obj) (h : b = true → (execOp a.eval o).run P w = .ok (.value v) (w.alloc ob)) (hS : S w) (hS' : S (w.alloc ob))
  (hk : ∀ K : Act → World → Prop, (∀ a w, wpList P ops Q rest a w → K a w) → ∀ w', S w' → (b = true → w' = w.alloc ob) → K (a.put o.dst (opt b v)) w') : wpList P ops Q (o :: rest) a w := by
 have hk := hk _ fun _ _ h => h
 cases b with
 | true => exact BigFrame.wpList_want hg fun K hK => by unfold Oper.wp; rw [h rfl]; exact hK _ _ (hk _ hS' fun _ => rfl)
 | false => exact wpList_skip hg (hk _ hS fun h => by cases h)
theorem wpL_callm {o : Oper} {rest : List Oper} {a : Act} {w : World} (b : Bool) (hg : Region.wanted o (yielded ops a.tmps) = b) (v : Value)
  (h : b = true → ∀ N : Act → World → Prop, (∀ w', S w' → N (a.put o.dst v) w') → Oper.upon P o a N Q ((execOp a.eval o).run P w)) (hS : S w)
  (hk : ∀ K : Act → World → Prop, (∀ a w, wpList P ops Q rest a w → K a w) → ∀ w', S w' → K (a.put o.dst (opt b v)) w') : wpList P ops Q (o :: rest) a w := by
 have hk := hk _ fun _ _ h => h
 cases b with
 | true => exact BigFrame.wpList_want hg fun K hK => h rfl _ fun w' hw => hK _ _ (hk w' hw)
 | false => exact wpList_skip hg (hk w hS)
end
theorem bcellW {N : Nat} {W w1 : World} (hb : Below N W w1) : (∀ b o, b < N → w1.cell? ⟨b, o, none⟩ = W.cell? ⟨b, o, none⟩) ∧ (∀ b o, b < N → w1.frozen? ⟨b, o, none⟩ = W.frozen? ⟨b, o, none⟩) :=
 ⟨fun b o h => hb.cell (p := ⟨b, o, none⟩) h, fun b o h => hb.frozen (p := ⟨b, o, none⟩) h⟩
def iC (x : Int) : List Value := [.int .i64 x]
abbrev IsAt (w : World) (A : Option Addr) (l : List Int) : Prop := RowsAt 1 iC w A l
theorem IsAt.get {w : World} {A : Option Addr} {l : List Int} (h : IsAt w A l) {k : Nat} {x : Int} (hx : l[k]? = some x) : ∃ g o, A = some ⟨g, o, none⟩ ∧ g < w.heap.size ∧ w.cell? ⟨g, o + k, none⟩ = some (.int .i64 x) := by
 obtain ⟨g, o, hA, hg, hc⟩ := h k x hx
 exact ⟨g, o, hA, hg, by have := hc 0 _ rfl; simpa using this⟩
structure Vc where
  x : Int
  y : Int
def Vc.cells (v : Vc) : List Value := [.int .i64 v.x, .int .i64 v.y]
abbrev VcAt (w : World) (A : Option Addr) (l : List Vc) : Prop := RowsAt 2 Vc.cells w A l
theorem VcAt.get {w : World} {A : Option Addr} {l : List Vc} (h : VcAt w A l) {k : Nat} {x : Vc} (hx : l[k]? = some x) : ∃ g o, A = some ⟨g, o, none⟩ ∧ g < w.heap.size ∧ w.cell? ⟨g, o + k * 2, none⟩ = some (.int .i64 x.x) ∧ w.cell? ⟨g, o + k * 2 + 1, none⟩ = some (.int .i64 x.y) := by
 obtain ⟨g, o, hA, hg, hc⟩ := h k x hx
 simp only [← Nat.add_assoc] at hc
 exact ⟨g, o, hA, hg, hc 0 _ rfl, hc 1 _ rfl⟩
theorem rows_new {α : Type} {n : Nat} {f : α → List Value} (hn : 0 < n) (hf : ∀ x, (f x).length = n) (w : World) (l : List α) (e : TypeId) : RowsAt n f (w.alloc (.cells (l.flatMap f).toArray e)) (some ⟨w.heap.size, 0, none⟩) l := fun k x hx => by
 refine ⟨_, 0, rfl, by simp, fun j u hu => ?_⟩
 rw [World.cell?_alloc_new]
 have key : ∀ (l : List α) (k : Nat), l[k]? = some x → (l.flatMap f)[k * n + j]? = some u := by
  intro l
  induction l with
  | nil => intro k h; simp at h
  | cons y l ih =>
   intro k h
   have hj : j < (f x).length := (List.getElem?_eq_some_iff.1 hu).1
   rw [hf] at hj
   rw [List.flatMap_cons]
   cases k with
   | zero =>
    simp only [List.getElem?_cons_zero, Option.some.injEq] at h
    subst h
    rw [List.getElem?_append_left (by rw [hf]; omega), Nat.zero_mul, Nat.zero_add]
    exact hu
   | succ k =>
    rw [List.getElem?_cons_succ] at h
    rw [List.getElem?_append_right (by rw [hf, Nat.succ_mul]; omega), hf, show (k + 1) * n + j - n = k * n + j by rw [Nat.succ_mul]; omega]
    exact ih k h
 have := key l k hx
 simp only [Nat.zero_add]
 first | exact this | simpa using this
def in1 (lo hi x : Int) : Bool := decide (lo ≤ x) && decide (x ≤ hi)
def inL (lo hi : Int) (l : List Int) : Bool := l.all (in1 lo hi)
theorem inL_drop {lo hi : Int} {l : List Int} {k : Nat} {x : Int} (h : l[k]? = some x) : inL lo hi (l.drop k) = (in1 lo hi x && inL lo hi (l.drop (k + 1))) := by
 obtain ⟨h1, rfl⟩ := List.getElem?_eq_some_iff.1 h
 rw [List.drop_eq_getElem_cons h1]
 rfl
set_option maxHeartbeats 1000000 in
theorem in_any (lo hi : Int) (l : List Int) (A : Option Addr) (c : Nat) (w : World) (hA : IsAt w A l) (hl : l.length ≤ maxLen) :
  Calls Tryz.prog 25 #[.int .i64 lo, .int .i64 hi, .slice A l.length c] w fun e w' => e = .returned (.bool (inL lo hi l)) ∧ w = w' := by
 unfold maxLen at hl
 have HA := hQ0 hA
 obtain ⟨R, hR⟩ : ∃ R, R = inL lo hi l := ⟨_, rfl⟩
 have HR : Hid (inL lo hi (l.drop 0) = R) := hQ0 hR.symm
 rw [← hR]
 clear hA hR
 go_enter Tryz.func25, Tryz.ntmps25; (try simp only [List.append_eq, List.cons_append, List.nil_append])
 go_wp2_with fail
 go_loop [11] (fun t => ∃ k : Nat, k ≤ l.length ∧ t = .int .i64 k ∧ Hid (inL lo hi (l.drop k) = R)) (fun t => l.length - (intOf t).toNat)
 case atStart => exact ⟨0, by omega, rfl, HR⟩
 case round =>
  obtain ⟨k, hk, rfl, HJ⟩ := hrel
  by_cases hlt : k < l.length
  · obtain ⟨x, hx⟩ : ∃ x, l[k]? = some x := ⟨l[k], by simp⟩
    obtain ⟨g, o, rfl, hg, c0⟩ := IsAt.get HA.out hx
    have HS := hQ0 (inL_drop (lo := lo) (hi := hi) hx)
    have i1 : (k : Int) < (l.length : Int) := by omega
    clear hx
    by_cases h1 : x < lo
    · obtain rfl : R = false := by rw [← HJ.out, HS.out]; unfold in1; rw [decide_eq_false (p := lo ≤ x) (by omega)]; rfl
      go_wp2_with fail
      go_ret
      exact ⟨rfl, rfl⟩
    · by_cases h2 : hi < x
      · obtain rfl : R = false := by rw [← HJ.out, HS.out]; unfold in1; rw [decide_eq_false (p := x ≤ hi) (by omega), Bool.and_false]; rfl
        go_wp2_with fail
        go_ret
        exact ⟨rfl, rfl⟩
      · have HN : Hid (inL lo hi (l.drop (k + 1)) = R) := hQ0 (by rw [← HJ.out, HS.out]; unfold in1; rw [decide_eq_true (p := lo ≤ x) (by omega), decide_eq_true (p := x ≤ hi) (by omega)]; rfl)
        go_wp2_with fail
        go_round
        case rel => exact ⟨k + 1, by omega, by go_num, HN⟩
        case measure => simp [intOf]; omega
  · obtain rfl : k = l.length := by omega
    obtain rfl : R = true := by rw [← HJ.out, List.drop_length]; rfl
    go_wp2_with fail
    go_ret
    exact ⟨rfl, rfl⟩
theorem inL1 (lo hi x : Int) : inL lo hi [x] = in1 lo hi x := by simp [inL]
theorem inL2 (lo hi x y : Int) : inL lo hi [x, y] = (in1 lo hi x && in1 lo hi y) := by simp [inL]
theorem is_new (w : World) (l : List Int) : IsAt (w.alloc (.cells (l.flatMap iC).toArray 3)) (some ⟨w.heap.size, 0, none⟩) l := rows_new (n := 1) (f := iC) (by decide) (fun _ => rfl) w l 3
theorem vc_new (w : World) (l : List Vc) : VcAt (w.alloc (.cells (l.flatMap Vc.cells).toArray 23)) (some ⟨w.heap.size, 0, none⟩) l := rows_new (n := 2) (f := Vc.cells) (by decide) (fun _ => rfl) w l 23
theorem in_new1 (lo hi x : Int) (g : Nat) (w : World) (hg : g = w.heap.size) : Calls Tryz.prog 25 #[.int .i64 lo, .int .i64 hi, .slice (some ⟨g, 0, none⟩) 1 1] (w.alloc (.cells #[.int .i64 x] 3)) fun e w' => e = .returned (.bool (in1 lo hi x)) ∧ w.alloc (.cells #[.int .i64 x] 3) = w' := by
 subst hg
 have := in_any lo hi [x] (some ⟨w.heap.size, 0, none⟩) 1 _ (is_new w [x]) (by unfold maxLen; simp)
 rw [inL1] at this
 exact this
theorem in_new2 (lo hi x y : Int) (g : Nat) (w : World) (hg : g = w.heap.size) : Calls Tryz.prog 25 #[.int .i64 lo, .int .i64 hi, .slice (some ⟨g, 0, none⟩) 2 2] (w.alloc (.cells #[.int .i64 x, .int .i64 y] 3)) fun e w' => e = .returned (.bool (in1 lo hi x && in1 lo hi y)) ∧ w.alloc (.cells #[.int .i64 x, .int .i64 y] 3) = w' := by
 subst hg
 have := in_any lo hi [x, y] (some ⟨w.heap.size, 0, none⟩) 2 _ (is_new w [x, y]) (by unfold maxLen; simp)
 rw [inL2] at this
 exact this
set_option maxHeartbeats 1000000 in
theorem level_any (l : List Int) (A : Option Addr) (c : Nat) (w : World) (hA : IsAt w A l) (hl : l.length ≤ maxLen) :
  Calls Tryz.prog 28 #[.slice A l.length c] w fun e w' => e = .returned (.bool (inL 0 3 l)) ∧ w = w' := by
 have HA := hQ0 hA
 have HL := hQ0 hl
 clear hA hl
 go_enter Tryz.func28, Tryz.ntmps28; (try simp only [List.append_eq, List.cons_append, List.nil_append])
 go_wp2_with fail
 (go_at_call 25; refine (in_any 0 3 l A c _ HA.out HL.out).mono ?_; rintro e w1 ⟨rfl, rfl⟩)
 go_wp2_with fail
 go_ret
 exact ⟨rfl, rfl⟩
set_option maxHeartbeats 1000000 in
theorem bounce_any (x y : Int) (w : World) : Calls Tryz.prog 30 #[.int .i64 x, .int .i64 y] w fun e w' => e = .returned (.bool (in1 0 15 x && in1 0 15 y)) ∧ Below w.heap.size w w' := by
 go_enter Tryz.func30, Tryz.ntmps30; (try simp only [List.append_eq, List.cons_append, List.nil_append])
 go_wp2_with fail
 (go_at_call 25; refine (in_new2 0 15 x y _ _ (by simp)).mono ?_; rintro e w1 ⟨rfl, rfl⟩)
 go_wp2_with fail
 go_ret
 exact ⟨rfl, (Below.refl _ _).alloc (Nat.le_refl _) _⟩
set_option maxRecDepth 100000 in
set_option maxHeartbeats 1000000 in
theorem ports_any (x y : Int) (w : World) : Calls Tryz.prog 31 #[.int .i64 x, .int .i64 y] w fun e w' => e = .returned (.bool (in1 (-1) 31 x && in1 (-1) 63 y)) ∧ Below w.heap.size w w' := by
 cases hb : in1 (-1) 31 x
 · have K := fun g W (hg : g = W.heap.size) => in_new1 (-1) 31 x g W hg
   rw [hb] at K
   have KK := hQ0 K
   clear K hb
   go_enter Tryz.func31, Tryz.ntmps31; (try simp only [List.append_eq, List.cons_append, List.nil_append])
   go_wp2_with fail
   (go_at_call 25; refine (KK.out _ _ (by simp)).mono ?_; rintro e w1 ⟨rfl, rfl⟩)
   go_wp2_with fail
   go_ret
   exact ⟨rfl, (Below.refl _ _).alloc (Nat.le_refl _) _⟩
 · have K := fun g W (hg : g = W.heap.size) => in_new1 (-1) 31 x g W hg
   rw [hb] at K
   have KK := hQ0 K
   clear K hb
   go_enter Tryz.func31, Tryz.ntmps31; (try simp only [List.append_eq, List.cons_append, List.nil_append])
   go_wp2_with fail
   (go_at_call 25; refine (KK.out _ _ (by simp)).mono ?_; rintro e w1 ⟨rfl, rfl⟩)
   go_wp2_with fail
   (go_at_call 25; refine (in_new1 (-1) 63 y _ _ (by simp)).mono ?_; rintro e w1 ⟨rfl, rfl⟩)
   go_wp2_with fail
   go_ret
   exact ⟨rfl, ((Below.refl _ _).alloc (Nat.le_refl _) _).alloc (by simp) _⟩
def nearV (n : Int) (v : Vc) : Bool := in1 (-n) n v.x && in1 (-n) n v.y
theorem all_drop {α : Type} {f : α → Bool} {l : List α} {k : Nat} {x : α} (h : l[k]? = some x) : (l.drop k).all f = (f x && (l.drop (k + 1)).all f) := by
 obtain ⟨h1, rfl⟩ := List.getElem?_eq_some_iff.1 h
 rw [List.drop_eq_getElem_cons h1]
 rfl
set_option maxHeartbeats 2000000 in
theorem within_any (n : Int) (l : List Vc) (A : Option Addr) (c : Nat) (w : World) (hA : VcAt w A l) (hl : l.length ≤ maxLen) (h0 : 0 ≤ n) (h1 : n ≤ 1073741824) :
  Calls Tryz.prog 26 #[.int .i64 n, .slice A l.length c] w fun e w' => e = .returned (.bool (l.all (nearV n))) ∧ Below w.heap.size w w' := by
 unfold maxLen at hl
 have HA := hQ0 hA
 obtain ⟨R, hR⟩ : ∃ R, R = l.all (nearV n) := ⟨_, rfl⟩
 have HR : Hid ((l.drop 0).all (nearV n) = R) := hQ0 hR.symm
 rw [← hR]
 clear hA hR
 go_enter Tryz.func26, Tryz.ntmps26; (try simp only [List.append_eq, List.cons_append, List.nil_append])
 go_wp2_with fail
 go_loopg [9] (l.length + 1) (fun gk t wr => ∃ k : Nat, k ≤ l.length ∧ l.length - k < gk ∧ t = .int .i64 k ∧ Below w.heap.size w wr ∧ Hid ((l.drop k).all (nearV n) = R))
 case atStart => exact ⟨0, by omega, by omega, rfl, Below.refl _ _, HR⟩
 case round =>
  obtain ⟨ws, rfl⟩ : ∃ z, z = wr := ⟨_, rfl⟩
  obtain ⟨k, hk, hkk, rfl, hb, HJ⟩ := hrel
  have hz := hb.size
  by_cases hlt : k < l.length
  · obtain ⟨v, hx⟩ : ∃ x, l[k]? = some x := ⟨l[k], by simp⟩
    obtain ⟨g, o, rfl, hg, c0, c1⟩ := VcAt.get (HA.out.below hb (Nat.le_refl _)) hx
    have HS := hQ0 (all_drop (f := nearV n) hx)
    have HB := hQ0 hb
    have i1 : (k : Int) < (l.length : Int) := by omega
    clear hx hb
    obtain ⟨r, hr⟩ : ∃ r, r = nearV n v := ⟨_, rfl⟩
    have K := fun g W (hg : g = W.heap.size) => in_new2 (-n) n v.x v.y g W hg
    rw [show (in1 (-n) n v.x && in1 (-n) n v.y) = r from hr.symm] at K
    rw [← hr] at HS
    have KK := hQ0 K
    clear K hr
    cases r
    · obtain rfl : R = false := by rw [← HJ.out, HS.out]; rfl
      go_wp2_with fail
      (go_at_call 25; refine (KK.out _ _ (by simp)).mono ?_; rintro e w1 ⟨rfl, rfl⟩)
      go_wp2_with fail
      go_ret
      refine ⟨rfl, ?_⟩
      have hb := HB.out
      ((with_reducible (repeat (first | exact bR _ _ | apply bS | apply bA | apply bD | refine bT ?_ (by assumption) ?_ | refine bO (by assumption) ?_ ?_))) <;> (first | omega | (simp <;> omega)))
    · have HN : Hid ((l.drop (k + 1)).all (nearV n) = R) := hQ0 (by rw [← HJ.out, HS.out]; rfl)
      go_wp2_with fail
      (go_at_call 25; refine (KK.out _ _ (by simp)).mono ?_; rintro e w1 ⟨rfl, rfl⟩)
      go_wp2_with fail
      go_roundg (l.length - (k + 1) + 1)
      case measure => omega
      case rel => exact ⟨k + 1, by omega, by omega, by go_num, by have hb := HB.out; ((with_reducible (repeat (first | exact bR _ _ | apply bS | apply bA | apply bD | refine bT ?_ (by assumption) ?_ | refine bO (by assumption) ?_ ?_))) <;> (first | omega | (simp <;> omega))), HN⟩
  · obtain rfl : k = l.length := by omega
    obtain rfl : R = true := by rw [← HJ.out, List.drop_length]; rfl
    go_wp2_with fail
    go_ret
    exact ⟨rfl, hb⟩
set_option maxHeartbeats 1000000 in
theorem at_any (l : List Vc) (A : Option Addr) (c : Nat) (w : World) (hA : VcAt w A l) (hl : l.length ≤ maxLen) :
  Calls Tryz.prog 29 #[.slice A l.length c] w fun e w' => e = .returned (.bool (l.all (nearV 1048576))) ∧ Below w.heap.size w w' := by
 have HA := hQ0 hA
 have HL := hQ0 hl
 clear hA hl
 go_enter Tryz.func29, Tryz.ntmps29; (try simp only [List.append_eq, List.cons_append, List.nil_append])
 go_wp2_with fail
 (go_at_call 26; refine (within_any 1048576 l A c _ HA.out HL.out (by omega) (by omega)).mono ?_; rintro e w1 ⟨rfl, hb⟩)
 go_wp2_with fail
 go_ret
 exact ⟨rfl, hb⟩
end Go.Proofs.YtbpcjpiaimdpnaaGreatDoor
namespace Go.Proofs.YtbpcjpiaimdpnaaGreatDoor
open Go
def byteAt (s : ByteArray) (i : Nat) : UInt8 := s.data.toList.getD i 0
theorem byteAt_eq {s : ByteArray} {i : Nat} (h : i < s.size) : s[i] = byteAt s i := by
 have : i < s.data.toList.length := by simpa using h
 simp only [byteAt, List.getD, List.getElem?_eq_getElem this, Option.getD_some]
 rfl
def letB (c : Int) : Bool := decide (97 ≤ c ∧ c ≤ 122)
def digB (c : Int) : Bool := decide (48 ≤ c ∧ c ≤ 57)
def cOf (s : ByteArray) (i : Nat) : Int := ((byteAt s i).toNat : Int)
theorem cOf_bd (s : ByteArray) (i : Nat) : 0 ≤ cOf s i ∧ cOf s i < 256 := by
 unfold cOf
 have := (byteAt s i).toNat_lt
 omega
def runTo (p : Int → Bool) (s : ByteArray) : Nat → Nat → Nat
  | 0, i => i
  | f + 1, i => if i < s.size ∧ p (cOf s i) = true then runTo p s f (i + 1) else i
def run (p : Int → Bool) (s : ByteArray) (i : Nat) : Nat := runTo p s (s.size - i) i
theorem run_step {p : Int → Bool} {s : ByteArray} {i : Nat} (h : i < s.size) (hp : p (cOf s i) = true) : run p s (i + 1) = run p s i := by
 unfold run
 have : s.size - i = (s.size - (i + 1)) + 1 := by omega
 rw [this]
 simp only [runTo, h, hp, and_self, if_true]
theorem run_stop {p : Int → Bool} {s : ByteArray} {i : Nat} (h : ¬ (i < s.size ∧ p (cOf s i) = true)) : run p s i = i := by
 unfold run
 cases hn : s.size - i with
 | zero => rfl
 | succ n => simp only [runTo, if_neg h]
theorem runTo_ge (p : Int → Bool) (s : ByteArray) : ∀ f i, i ≤ runTo p s f i
 | 0, i => Nat.le_refl _
 | f + 1, i => by
  unfold runTo
  split
  · have := runTo_ge p s f (i + 1); omega
  · exact Nat.le_refl _
theorem run_ge (p : Int → Bool) (s : ByteArray) (i : Nat) : i ≤ run p s i := runTo_ge _ _ _ _
theorem runTo_le (p : Int → Bool) (s : ByteArray) : ∀ f i, i ≤ s.size → runTo p s f i ≤ s.size
 | 0, i, h => h
 | f + 1, i, h => by
  unfold runTo
  split
  · rename_i hh; exact runTo_le p s f (i + 1) (by omega)
  · exact h
theorem run_le (p : Int → Bool) (s : ByteArray) {i : Nat} (h : i ≤ s.size) : run p s i ≤ s.size := runTo_le _ _ _ _ h
theorem runTo_mem (p : Int → Bool) (s : ByteArray) : ∀ f i j, i ≤ j → j < runTo p s f i → p (cOf s j) = true
 | 0, i, j, h, h' => by simp only [runTo] at h'; omega
 | f + 1, i, j, h, h' => by
  unfold runTo at h'
  split at h'
  · rename_i hh
    by_cases hij : i = j
    · subst hij; exact hh.2
    · exact runTo_mem p s f (i + 1) j (by omega) h'
  · omega
theorem run_mem {p : Int → Bool} {s : ByteArray} {i j : Nat} (h : i ≤ j) (h' : j < run p s i) : p (cOf s j) = true := runTo_mem _ _ _ _ _ h h'
theorem runTo_end (p : Int → Bool) (s : ByteArray) : ∀ f i, s.size - i ≤ f → runTo p s f i < s.size → p (cOf s (runTo p s f i)) = false
 | 0, i, h, h' => by simp only [runTo] at h'; omega
 | f + 1, i, h, h' => by
  unfold runTo at h' ⊢
  by_cases hh : i < s.size ∧ p (cOf s i) = true
  · rw [if_pos hh] at h' ⊢; exact runTo_end p s f (i + 1) (by omega) h'
  · rw [if_neg hh] at h' ⊢
    cases hp : p (cOf s i) with
    | true => exact absurd ⟨h', hp⟩ hh
    | false => rfl
theorem run_end {p : Int → Bool} {s : ByteArray} {i : Nat} (h : run p s i < s.size) : p (cOf s (run p s i)) = false := runTo_end _ _ _ _ (Nat.le_refl _) h
def alnumB (c : Int) : Bool := letB c || digB c
def notLf (c : Int) : Bool := !decide (c = 10)
def numTo (M : Int) (s : ByteArray) : Nat → Nat → Int → Int
  | 0, _, n => n
  | f + 1, i, n => if i < s.size ∧ digB (cOf s i) = true then numTo M s f (i + 1) (min (10 * n + (cOf s i - 48)) M) else n
def num (M : Int) (s : ByteArray) (i : Nat) (n : Int) : Int := numTo M s (s.size - i) i n
theorem num_step {M : Int} {s : ByteArray} {i : Nat} {n : Int} (h : i < s.size) (hp : digB (cOf s i) = true) : num M s (i + 1) (min (10 * n + (cOf s i - 48)) M) = num M s i n := by
 unfold num
 have : s.size - i = (s.size - (i + 1)) + 1 := by omega
 rw [this]
 simp only [numTo, h, hp, and_self, if_true]
theorem num_stop {M : Int} {s : ByteArray} {i : Nat} {n : Int} (h : ¬ (i < s.size ∧ digB (cOf s i) = true)) : num M s i n = n := by
 unfold num
 cases hn : s.size - i with
 | zero => rfl
 | succ k => simp only [numTo, if_neg h]
theorem numTo_rel (s : ByteArray) : ∀ f i (n n' : Int), 0 ≤ n → 0 ≤ n' → (n = n' ∧ n ≤ 1073741824 ∨ 1073741824 < n ∧ 1073741824 < n') →
  (numTo 2147483648 s f i n = numTo 1073741825 s f i n' ∧ numTo 2147483648 s f i n ≤ 1073741824 ∨ 1073741824 < numTo 2147483648 s f i n ∧ 1073741824 < numTo 1073741825 s f i n')
 | 0, _, n, n', _, _, h => by simp only [numTo]; exact h
 | f + 1, i, n, n', h0, h0', h => by
  unfold numTo
  by_cases hc : i < s.size ∧ digB (cOf s i) = true
  · rw [if_pos hc, if_pos hc]
    have hd : 48 ≤ cOf s i ∧ cOf s i ≤ 57 := by simpa [digB] using hc.2
    exact numTo_rel s f (i + 1) _ _ (by omega) (by omega) (by omega)
  · rw [if_neg hc, if_neg hc]; exact h
theorem num_rel (s : ByteArray) (i : Nat) : (num 2147483648 s i 0 = num 1073741825 s i 0 ∧ num 2147483648 s i 0 ≤ 1073741824 ∨ 1073741824 < num 2147483648 s i 0 ∧ 1073741824 < num 1073741825 s i 0) :=
 numTo_rel s _ i 0 0 (by omega) (by omega) (by omega)
theorem numTo_bd (M : Int) (hM : 0 ≤ M) (s : ByteArray) : ∀ f i (n : Int), 0 ≤ n → n ≤ M → 0 ≤ numTo M s f i n ∧ numTo M s f i n ≤ M
 | 0, _, n, h0, h1 => by simp only [numTo]; exact ⟨h0, h1⟩
 | f + 1, i, n, h0, h1 => by
  unfold numTo
  by_cases hc : i < s.size ∧ digB (cOf s i) = true
  · rw [if_pos hc]
    have hd : 48 ≤ cOf s i ∧ cOf s i ≤ 57 := by simpa [digB] using hc.2
    exact numTo_bd M hM s f (i + 1) _ (by omega) (by omega)
  · rw [if_neg hc]; exact ⟨h0, h1⟩
theorem num_bd (s : ByteArray) (i : Nat) : 0 ≤ num 1073741825 s i 0 ∧ num 1073741825 s i 0 ≤ 1073741825 := numTo_bd _ (by omega) s _ i 0 (by omega) (by omega)
inductive WR where
  | err (e : Int) (at_ : Nat)
  | ok (kind : Int) (text : ByteArray) (num : Int) (nx : Nat)
def wordR (s : ByteArray) (i : Nat) : WR :=
  if cOf s i = 59 then .ok 3 ⟨#[59]⟩ 0 (i + 1)
  else if letB (cOf s i) = true then
    if 12 < run alnumB s i - i then .err 6 i else .ok 1 (s.extract i (run alnumB s i)) 0 (run alnumB s i)
  else
    let f := if cOf s i = 45 then i + 1 else i
    let e := run digB s f
    let n := num 1073741825 s f 0
    if e = f then .err 4 i
    else if 1073741824 < n then .err 5 i
    else if e < s.size ∧ letB (cOf s e) = true then .err 4 e
    else .ok 2 (s.extract i e) (if cOf s i = 45 then -n else n) e
structure WV where
  kind : Int
  text : ByteArray
  num : Int
  at_ : Nat
def scanF (s : ByteArray) : Nat → Nat → List WV → List WV × Int × Nat
  | 0, _, acc => (acc, 0, 0)
  | f + 1, i, acc =>
    if i < s.size then
      if cOf s i = 32 ∨ cOf s i = 9 ∨ cOf s i = 10 then scanF s f (i + 1) acc
      else if cOf s i = 35 then scanF s f (run notLf s i) acc
      else match wordR s i with
        | .err e a => ([], e, a)
        | .ok k t n nx => scanF s f nx (acc ++ [⟨k, t, n, i⟩])
    else (acc, 0, 0)
def scanR (s : ByteArray) : List WV × Int × Nat := if 20000 < s.size then ([], 2, 0) else scanF s (s.size + 1) 0 []
theorem scanF_end {s : ByteArray} {f i : Nat} {acc : List WV} (h : ¬ i < s.size) : scanF s f i acc = (acc, 0, 0) := by
 cases f with
 | zero => rfl
 | succ f => simp only [scanF, if_neg h]
theorem wordR_ok {s : ByteArray} {i : Nat} (hi : i < s.size) {k : Int} {t : ByteArray} {n : Int} {nx : Nat} (h : wordR s i = .ok k t n nx) : i < nx ∧ nx ≤ s.size ∧ t.size = nx - i ∧ -1073741824 ≤ n ∧ n ≤ 1073741824 ∧ 1 ≤ k ∧ k ≤ 3 ∧ t = s.extract i nx := by
 unfold wordR at h
 by_cases h0 : cOf s i = 59
 · rw [if_pos h0] at h
   injection h with h1 h2 h3 h4
   subst h1 h2 h3 h4
   refine ⟨by omega, by omega, by have : ByteArray.size ⟨#[59]⟩ = 1 := rfl; omega, by omega, by omega, by omega, by omega, ?_⟩
   have hb : byteAt s i = 59 := by
    unfold cOf at h0
    exact UInt8.toNat_inj.1 (by simpa using (by omega : (byteAt s i).toNat = 59))
   apply ByteArray.ext
   rw [ByteArray.data_extract]
   apply Array.ext
   · simp; omega
   · intro j h1 h2
     simp at h1
     obtain rfl : j = 0 := by omega
     have := byteAt_eq hi
     simp only [Array.getElem_extract, Nat.add_zero]
     rw [hb] at this
     exact (show s.data[i] = 59 from this).symm
 · rw [if_neg h0] at h
   by_cases h1 : letB (cOf s i) = true
   · rw [if_pos h1] at h
     have hge : i + 1 ≤ run alnumB s i := by rw [← run_step hi (p := alnumB) (by simp [alnumB, h1])]; exact run_ge _ _ _
     have hle := run_le alnumB s (i := i) (by omega)
     split at h
     · cases h
     · injection h with e1 e2 e3 e4
       subst e1 e2 e3 e4
       refine ⟨by omega, hle, by simp [ByteArray.size_extract]; omega, by omega, by omega, by omega, by omega, rfl⟩
   · rw [if_neg h1] at h
     simp only at h
     generalize hf : (if cOf s i = 45 then i + 1 else i) = f at h
     have hfi : i ≤ f ∧ f ≤ s.size := by rw [← hf]; split <;> omega
     have hge := run_ge digB s f
     have hle := run_le digB s hfi.2
     have hn := num_bd s f
     split at h
     · cases h
     · split at h
       · cases h
       · split at h
         · cases h
         · rename_i g1 g2 g3
           injection h with e1 e2 e3 e4
           subst e1 e2 e3 e4
           refine ⟨by omega, hle, by simp [ByteArray.size_extract]; omega, ?_, ?_, by omega, by omega, rfl⟩ <;> split <;> omega
theorem wr_num0 {s : ByteArray} {i f : Nat} (hc : cOf s i ≠ 59) (hl : letB (cOf s i) = false) (hf : f = if cOf s i = 45 then i + 1 else i) :
  wordR s i = if run digB s f = f then .err 4 i else if 1073741824 < num 1073741825 s f 0 then .err 5 i
   else if run digB s f < s.size ∧ letB (cOf s (run digB s f)) = true then .err 4 (run digB s f)
   else .ok 2 (s.extract i (run digB s f)) (if cOf s i = 45 then -(num 1073741825 s f 0) else num 1073741825 s f 0) (run digB s f) := by
 unfold wordR
 rw [if_neg hc, if_neg (by rw [hl]; simp), ← hf]
theorem wr_nodig {s : ByteArray} {i f : Nat} (hc : cOf s i ≠ 59) (hl : letB (cOf s i) = false) (hf : f = if cOf s i = 45 then i + 1 else i) (he : run digB s f = f) : wordR s i = .err 4 i := by
 rw [wr_num0 hc hl hf, if_pos he]
theorem wr_range {s : ByteArray} {i f : Nat} (hc : cOf s i ≠ 59) (hl : letB (cOf s i) = false) (hf : f = if cOf s i = 45 then i + 1 else i) (he : run digB s f ≠ f) (hn : 1073741824 < num 1073741825 s f 0) : wordR s i = .err 5 i := by
 rw [wr_num0 hc hl hf, if_neg he, if_pos hn]
theorem wr_glued {s : ByteArray} {i f e : Nat} {n : Int} (hc : cOf s i ≠ 59) (hl : letB (cOf s i) = false) (hf : f = if cOf s i = 45 then i + 1 else i) (hr : run digB s f = e) (he : e ≠ f) (hv : num 1073741825 s f 0 = n) (hn : ¬ 1073741824 < n) (h1 : e < s.size) (h2 : letB (cOf s e) = true) : wordR s i = .err 4 e := by
 rw [wr_num0 hc hl hf, hr, hv, if_neg he, if_neg hn, if_pos ⟨h1, h2⟩]
theorem wr_num {s : ByteArray} {i f e : Nat} {n : Int} (hc : cOf s i ≠ 59) (hl : letB (cOf s i) = false) (hf : f = if cOf s i = 45 then i + 1 else i) (hr : run digB s f = e) (he : e ≠ f) (hv : num 1073741825 s f 0 = n) (hn : ¬ 1073741824 < n) (h1 : ¬ (e < s.size ∧ letB (cOf s e) = true)) : wordR s i = .ok 2 (s.extract i e) (if cOf s i = 45 then -n else n) e := by
 rw [wr_num0 hc hl hf, hr, hv, if_neg he, if_neg hn, if_neg h1]
theorem wordR_err {s : ByteArray} {i : Nat} {e : Int} {a : Nat} (h : wordR s i = .err e a) : 1 ≤ e ∧ e ≤ 12 := by
 unfold wordR at h
 split at h
 · cases h
 · split at h
   · split at h
     · injection h with h1 h2; omega
     · cases h
   · simp only at h
     generalize (if cOf s i = 45 then i + 1 else i) = f at h
     split at h
     · injection h with h1 h2; omega
     · split at h
       · injection h with h1 h2; omega
       · split at h
         · injection h with h1 h2; omega
         · cases h
theorem scan_blank {s : ByteArray} {f i : Nat} {acc : List WV} {R : List WV × Int × Nat} (h : scanF s f i acc = R) (hi : i < s.size) (hf : s.size - i < f) (hc : cOf s i = 32 ∨ cOf s i = 9 ∨ cOf s i = 10) : ∃ f', scanF s f' (i + 1) acc = R ∧ s.size - (i + 1) < f' := by
 cases f with
 | zero => omega
 | succ f => simp only [scanF, if_pos hi, if_pos hc] at h; exact ⟨f, h, by omega⟩
theorem scan_note {s : ByteArray} {f i : Nat} {acc : List WV} {R : List WV × Int × Nat} (h : scanF s f i acc = R) (hi : i < s.size) (hf : s.size - i < f) (hc : cOf s i = 35) : ∃ f', scanF s f' (run notLf s i) acc = R ∧ s.size - run notLf s i < f' := by
 cases f with
 | zero => omega
 | succ f =>
  have hn : ¬ (cOf s i = 32 ∨ cOf s i = 9 ∨ cOf s i = 10) := by omega
  simp only [scanF, if_pos hi, if_neg hn, if_pos hc] at h
  have hge : i + 1 ≤ run notLf s i := by rw [← run_step hi (p := notLf) (by simp [notLf]; omega)]; exact run_ge _ _ _
  exact ⟨f, h, by omega⟩
theorem scan_err {s : ByteArray} {f i : Nat} {acc : List WV} {R : List WV × Int × Nat} {e : Int} {a : Nat} (h : scanF s f i acc = R) (hi : i < s.size) (hf : s.size - i < f) (hc : ¬ (cOf s i = 32 ∨ cOf s i = 9 ∨ cOf s i = 10)) (hn : cOf s i ≠ 35) (hw : wordR s i = .err e a) : R = ([], e, a) := by
 cases f with
 | zero => omega
 | succ f => simp only [scanF, if_pos hi, if_neg hc, if_neg hn, hw] at h; exact h.symm
theorem scan_word {s : ByteArray} {f i : Nat} {acc : List WV} {R : List WV × Int × Nat} {k : Int} {t : ByteArray} {n : Int} {nx : Nat} (h : scanF s f i acc = R) (hi : i < s.size) (hf : s.size - i < f) (hc : ¬ (cOf s i = 32 ∨ cOf s i = 9 ∨ cOf s i = 10)) (hn : cOf s i ≠ 35) (hw : wordR s i = .ok k t n nx) :
  ∃ f', scanF s f' nx (acc ++ [⟨k, t, n, i⟩]) = R ∧ s.size - nx < f' := by
 cases f with
 | zero => omega
 | succ f =>
  simp only [scanF, if_pos hi, if_neg hc, if_neg hn, hw] at h
  have := wordR_ok hi hw
  exact ⟨f, h, by omega⟩
end Go.Proofs.YtbpcjpiaimdpnaaGreatDoor
namespace Go.Proofs.YtbpcjpiaimdpnaaGreatDoor
open Go.RowKit
set_option linter.unusedVariables false
theorem ret_bool {a b : Bool} (h : a = b) : Ending.returned (.bool a) = .returned (.bool b) := by rw [h]
theorem bool_iff {a b : Bool} (h : a = true ↔ b = true) : a = b := by cases a <;> cases b <;> simp_all
set_option maxHeartbeats 400000 in
theorem let_any (c : Int) (w : World) : Calls Tryz.prog 183 #[.int .u8 c] w fun e w' => e = .returned (.bool (letB c)) ∧ w = w' := by
 go_enter Tryz.func183, Tryz.ntmps183; (try simp only [List.append_eq, List.cons_append, List.nil_append])
 go_wp2
 all_goals
  go_ret
  refine ⟨ret_bool (bool_iff ?_), rfl⟩
  simp only [letB, decide_eq_true_eq, Bool.false_eq_true, false_iff]; omega
set_option maxHeartbeats 400000 in
theorem dig_any (c : Int) (w : World) : Calls Tryz.prog 184 #[.int .u8 c] w fun e w' => e = .returned (.bool (digB c)) ∧ w = w' := by
 go_enter Tryz.func184, Tryz.ntmps184; (try simp only [List.append_eq, List.cons_append, List.nil_append])
 go_wp2
 all_goals
  go_ret
  refine ⟨ret_bool (bool_iff ?_), rfl⟩
  simp only [digB, decide_eq_true_eq, Bool.false_eq_true, false_iff]; omega
def WordOut (s : ByteArray) (i : Nat) (B : Nat) (w : World) (e : Ending) (w' : World) : Prop :=
  Below B w w' ∧ ((∃ er pl, wordR s i = .err er pl ∧ e = .returned (.tuple #[.agg #[.int .i64 0, .string ⟨#[]⟩, .int .i64 0, .int .i64 0], .int .i64 er, .int .i64 pl])) ∨
    ∃ k t n nx, wordR s i = .ok k t n nx ∧ e = .returned (.tuple #[.agg #[.int .i64 k, .string t, .int .i64 n, .int .i64 i], .int .i64 0, .int .i64 0]))
theorem cOf_get {s : ByteArray} {i : Nat} (h : i < s.size) : ((s[i].toNat : Nat) : Int) = cOf s i := by rw [byteAt_eq h]; rfl
attribute [local go_sem] cOf_get
set_option maxHeartbeats 400000 in
theorem word_semi (s : ByteArray) (i : Nat) (w : World) (hs : s.size ≤ 20000) (hi : i < s.size) (hc : cOf s i = 59) :
  Calls Tryz.prog 153 #[.string s, .int .i64 i] w (WordOut s i w.heap.size w) := by
 have hB : (cOf s i == 59) = true := by simp [hc]
 have HC := hQ0 hc
 clear hc
 go_enter Tryz.func153, Tryz.ntmps153; (try simp only [List.append_eq, List.cons_append, List.nil_append])
 go_wp2_with fail
 refine bodyPost_ret (v := .tuple #[.agg #[.int .i64 3, .string ⟨#[59]⟩, .int .i64 0, .int .i64 i], .int .i64 0, .int .i64 0]) (by simp only [results, Tryz.results153]; go_simp) rfl ⟨?_, .inr ⟨3, ⟨#[59]⟩, 0, i + 1, ?_, rfl⟩⟩
 · ((with_reducible (repeat (first | exact bR _ _ | apply bS | apply bA | apply bD | refine bT ?_ (by assumption) ?_ | refine bO (by assumption) ?_ ?_))) <;> (first | omega | (simp <;> omega)))
 · simp [wordR, HC.out]
set_option maxHeartbeats 400000 in
theorem word_name (s : ByteArray) (i : Nat) (w : World) (hs : s.size ≤ 20000) (hi : i < s.size) (hc : cOf s i ≠ 59) (hl : letB (cOf s i) = true) :
  Calls Tryz.prog 153 #[.string s, .int .i64 i] w (WordOut s i w.heap.size w) := by
 have hB : (cOf s i == 59) = false := by simp [hc]
 have HC := hQ0 hc
 clear hc
 have HL := hQ0 hl
 have hle := run_le alnumB s (i := i) (by omega)
 have hge := run_ge alnumB s i
 go_enter Tryz.func153, Tryz.ntmps153; (try simp only [List.append_eq, List.cons_append, List.nil_append])
 go_wp2_with (first | (go_at_call 183; refine (let_any _ _).mono ?_; rintro e w' ⟨rfl, rfl⟩) | (go_at_call 184; refine (dig_any _ _).mono ?_; rintro e w' ⟨rfl, rfl⟩))
 obtain ⟨E, hE⟩ : ∃ E, E = run alnumB s i := ⟨_, rfl⟩
 rw [← hE] at hle hge
 have HE := hQ0 hE
 clear hE
 go_loop [7] (fun t => ∃ k : Nat, i ≤ k ∧ k ≤ s.size ∧ t = .int .i64 k ∧ Hid (run alnumB s k = E)) (fun t => s.size - (intOf t).toNat)
 case atStart => exact ⟨i, Nat.le_refl _, by omega, rfl, HE.out.symm⟩
 case round =>
  obtain ⟨k, hk0, hk, rfl, HK⟩ := hrel
  by_cases hlt : k < s.size
  · by_cases hp : alnumB (cOf s k) = true
    · have hst := hQ0 ((run_step hlt hp).trans HK.out)
      have HP : (letB (cOf s k) = true) ∨ (letB (cOf s k) = false ∧ digB (cOf s k) = true) := by
       cases h1 : letB (cOf s k) <;> cases h2 : digB (cOf s k) <;> simp_all [alnumB]
      clear hp
      rcases HP with hp | ⟨hp, hp'⟩
      all_goals
       go_wp2_with (first | (go_at_call 183; refine (let_any _ _).mono ?_; rintro e w' ⟨rfl, rfl⟩) | (go_at_call 184; refine (dig_any _ _).mono ?_; rintro e w' ⟨rfl, rfl⟩))
       go_round
       case rel => exact ⟨k + 1, by omega, by omega, by go_num, hst.out⟩
       case measure => simp [intOf]; omega
    · have hp1 : letB (cOf s k) = false := by cases h1 : letB (cOf s k) <;> simp_all [alnumB]
      have hp2 : digB (cOf s k) = false := by cases h1 : digB (cOf s k) <;> simp_all [alnumB]
      have hEk : k = E := by rw [← HK.out]; exact (run_stop (fun h => hp h.2)).symm
      clear hp
      subst hEk
      by_cases hbig : 12 < k - i
      · have hb2 : (12 : Int) < (k : Int) - i := by omega
        go_wp2_with (first | (go_at_call 183; refine (let_any _ _).mono ?_; rintro e w' ⟨rfl, rfl⟩) | (go_at_call 184; refine (dig_any _ _).mono ?_; rintro e w' ⟨rfl, rfl⟩))
        refine bodyPost_ret (v := .tuple #[.agg #[.int .i64 0, .string ⟨#[]⟩, .int .i64 0, .int .i64 0], .int .i64 6, .int .i64 i]) (by simp only [results, Tryz.results153]; go_simp) rfl ⟨?_, .inl ⟨6, i, ?_, rfl⟩⟩
        · ((with_reducible (repeat (first | exact bR _ _ | apply bS | apply bA | apply bD | refine bT ?_ (by assumption) ?_ | refine bO (by assumption) ?_ ?_))) <;> (first | omega | (simp <;> omega)))
        · simp [wordR, HC.out, HL.out, ← HE.out, hbig]
      · have hb2 : ¬ (12 : Int) < (k : Int) - i := by omega
        go_wp2_with (first | (go_at_call 183; refine (let_any _ _).mono ?_; rintro e w' ⟨rfl, rfl⟩) | (go_at_call 184; refine (dig_any _ _).mono ?_; rintro e w' ⟨rfl, rfl⟩))
        refine bodyPost_ret (v := .tuple #[.agg #[.int .i64 1, .string (s.extract i k), .int .i64 0, .int .i64 i], .int .i64 0, .int .i64 0]) (by simp only [results, Tryz.results153]; go_simp) rfl ⟨?_, .inr ⟨1, s.extract i k, 0, k, ?_, rfl⟩⟩
        · ((with_reducible (repeat (first | exact bR _ _ | apply bS | apply bA | apply bD | refine bT ?_ (by assumption) ?_ | refine bO (by assumption) ?_ ?_))) <;> (first | omega | (simp <;> omega)))
        · simp [wordR, HC.out, HL.out, ← HE.out, hbig]
  · have hEk : k = E := by rw [← HK.out]; exact (run_stop (fun h => hlt h.1)).symm
    subst hEk
    by_cases hbig : 12 < k - i
    · have hb2 : (12 : Int) < (k : Int) - i := by omega
      go_wp2_with (first | (go_at_call 183; refine (let_any _ _).mono ?_; rintro e w' ⟨rfl, rfl⟩) | (go_at_call 184; refine (dig_any _ _).mono ?_; rintro e w' ⟨rfl, rfl⟩))
      refine bodyPost_ret (v := .tuple #[.agg #[.int .i64 0, .string ⟨#[]⟩, .int .i64 0, .int .i64 0], .int .i64 6, .int .i64 i]) (by simp only [results, Tryz.results153]; go_simp) rfl ⟨?_, .inl ⟨6, i, ?_, rfl⟩⟩
      · ((with_reducible (repeat (first | exact bR _ _ | apply bS | apply bA | apply bD | refine bT ?_ (by assumption) ?_ | refine bO (by assumption) ?_ ?_))) <;> (first | omega | (simp <;> omega)))
      · simp [wordR, HC.out, HL.out, ← HE.out, hbig]
    · have hb2 : ¬ (12 : Int) < (k : Int) - i := by omega
      go_wp2_with (first | (go_at_call 183; refine (let_any _ _).mono ?_; rintro e w' ⟨rfl, rfl⟩) | (go_at_call 184; refine (dig_any _ _).mono ?_; rintro e w' ⟨rfl, rfl⟩))
      refine bodyPost_ret (v := .tuple #[.agg #[.int .i64 1, .string (s.extract i k), .int .i64 0, .int .i64 i], .int .i64 0, .int .i64 0]) (by simp only [results, Tryz.results153]; go_simp) rfl ⟨?_, .inr ⟨1, s.extract i k, 0, k, ?_, rfl⟩⟩
      · ((with_reducible (repeat (first | exact bR _ _ | apply bS | apply bA | apply bD | refine bT ?_ (by assumption) ?_ | refine bO (by assumption) ?_ ?_))) <;> (first | omega | (simp <;> omega)))
      · simp [wordR, HC.out, HL.out, ← HE.out, hbig]
set_option maxRecDepth 100000 in
set_option maxHeartbeats 800000 in
theorem word_minus (s : ByteArray) (i : Nat) (w : World) (hs : s.size ≤ 20000) (hi : i < s.size) (hc : cOf s i ≠ 59) (hl : letB (cOf s i) = false) (hm : cOf s i = 45) :
  Calls Tryz.prog 153 #[.string s, .int .i64 i] w (WordOut s i w.heap.size w) := by
 have hB : (cOf s i == 59) = false := by simp [hc]
 have hM : (cOf s i == 45) = true := by simp [hm]
 have HC := hQ0 hc
 have HM := hQ0 hm
 have HL := hQ0 hl
 clear hc hm
 have hle := run_le digB s (i := i + 1) (by omega)
 have hge := run_ge digB s (i + 1)
 go_enter Tryz.func153, Tryz.ntmps153; (try simp only [List.append_eq, List.cons_append, List.nil_append])
 go_wp2_with (first | (go_at_call 183; refine (let_any _ _).mono ?_; rintro e w' ⟨rfl, rfl⟩) | (go_at_call 184; refine (dig_any _ _).mono ?_; rintro e w' ⟨rfl, rfl⟩))
 obtain ⟨E, hE⟩ : ∃ E, E = run digB s (i + 1) := ⟨_, rfl⟩
 obtain ⟨V, hV⟩ : ∃ V, V = num 2147483648 s (i + 1) 0 := ⟨_, rfl⟩
 have HR : Hid (V = num 1073741825 s (i + 1) 0 ∧ V ≤ 1073741824 ∨ 1073741824 < V ∧ 1073741824 < num 1073741825 s (i + 1) 0) := by rw [hV]; exact num_rel s _
 rw [← hE] at hle hge
 have HE := hQ0 hE
 have HV := hQ0 hV
 clear hE hV
 go_loop [7, 9] (fun t u => ∃ (k : Nat) (n : Int), i + 1 ≤ k ∧ k ≤ s.size ∧ t = .int .i64 k ∧ u = .int .i64 n ∧ 0 ≤ n ∧ n ≤ 2147483648 ∧ Hid (run digB s k = E) ∧ Hid (num 2147483648 s k n = V)) (fun t _ => s.size - (intOf t).toNat)
 case atStart => exact ⟨i + 1, 0, Nat.le_refl _, by omega, by go_num, rfl, by omega, by omega, HE.out.symm, HV.out.symm⟩
 case round =>
  obtain ⟨k, n, hk0, hk, rfl, rfl, hn0, hn1, HK, HN⟩ := hrel
  have hcb := cOf_bd s k
  obtain ⟨hcb1, hcb2⟩ := hcb
  by_cases hlt : k < s.size
  · cases hp : digB (cOf s k)
    · have hEk : k = E := by rw [← HK.out]; exact (run_stop (fun h => by rw [hp] at h; exact absurd h.2 (by simp))).symm
      have hVk : n = V := by rw [← HN.out]; exact (num_stop (fun h => by rw [hp] at h; exact absurd h.2 (by simp))).symm
      subst hEk hVk
      clear HK HN
      by_cases he : k = i + 1
      · have he2 : ((k : Int) == (i : Int) + 1) = true := by simp; omega
        have HH := hQ0 (HE.out.symm.trans he)
        clear he
        go_wp2_with (first | (go_at_call 183; refine (let_any _ _).mono ?_; rintro e w' ⟨rfl, rfl⟩) | (go_at_call 184; refine (dig_any _ _).mono ?_; rintro e w' ⟨rfl, rfl⟩))
        refine bodyPost_ret (v := .tuple #[.agg #[.int .i64 0, .string ⟨#[]⟩, .int .i64 0, .int .i64 0], .int .i64 4, .int .i64 i]) (by simp only [results, Tryz.results153]; go_simp) rfl ⟨?_, .inl ⟨4, i, wr_nodig HC.out HL.out (by rw [if_pos HM.out]) HH.out, rfl⟩⟩
        ((with_reducible (repeat (first | exact bR _ _ | apply bS | apply bA | apply bD | refine bT ?_ (by assumption) ?_ | refine bO (by assumption) ?_ ?_))) <;> (first | omega | (simp <;> omega)))
      · have he2 : ((k : Int) == (i : Int) + 1) = false := by simp; omega
        have HN := hQ0 (fun h => he (HE.out.trans h) : run digB s (i + 1) ≠ i + 1)
        by_cases hb : 1073741824 < n
        · have HH : Hid (1073741824 < num 1073741825 s (i + 1) 0) := by rcases HR.out with h | h; exact absurd hb (by omega); exact h.2
          go_wp2_with (first | (go_at_call 183; refine (let_any _ _).mono ?_; rintro e w' ⟨rfl, rfl⟩) | (go_at_call 184; refine (dig_any _ _).mono ?_; rintro e w' ⟨rfl, rfl⟩))
          refine bodyPost_ret (v := .tuple #[.agg #[.int .i64 0, .string ⟨#[]⟩, .int .i64 0, .int .i64 0], .int .i64 5, .int .i64 i]) (by simp only [results, Tryz.results153]; go_simp) rfl ⟨?_, .inl ⟨5, i, wr_range HC.out HL.out (by rw [if_pos HM.out]) HN.out HH.out, rfl⟩⟩
          ((with_reducible (repeat (first | exact bR _ _ | apply bS | apply bA | apply bD | refine bT ?_ (by assumption) ?_ | refine bO (by assumption) ?_ ?_))) <;> (first | omega | (simp <;> omega)))
        · have HH : Hid (num 1073741825 s (i + 1) 0 = n) := by rcases HR.out with h | h; exact h.1.symm; exact absurd h.1 hb
          have HHb : Hid (n ≤ 1073741824) := Int.not_lt.1 hb
          cases hq : letB (cOf s k)
          · go_wp2_with (first | (go_at_call 183; refine (let_any _ _).mono ?_; rintro e w' ⟨rfl, rfl⟩) | (go_at_call 184; refine (dig_any _ _).mono ?_; rintro e w' ⟨rfl, rfl⟩))
            refine bodyPost_ret (v := .tuple #[.agg #[.int .i64 2, .string (s.extract i k), .int .i64 (-n), .int .i64 i], .int .i64 0, .int .i64 0]) (by simp only [results, Tryz.results153]; go_simp) rfl ⟨?_, .inr ⟨2, s.extract i k, -n, k, ?_, rfl⟩⟩
            · ((with_reducible (repeat (first | exact bR _ _ | apply bS | apply bA | apply bD | refine bT ?_ (by assumption) ?_ | refine bO (by assumption) ?_ ?_))) <;> (first | omega | (simp <;> omega)))
            · rw [wr_num HC.out HL.out (by rw [if_pos HM.out]) HE.out.symm he HH.out (Int.not_lt.2 HHb.out) (fun h => by rw [hq] at h; exact absurd h.2 (by simp)), if_pos HM.out]
          · go_wp2_with (first | (go_at_call 183; refine (let_any _ _).mono ?_; rintro e w' ⟨rfl, rfl⟩) | (go_at_call 184; refine (dig_any _ _).mono ?_; rintro e w' ⟨rfl, rfl⟩))
            refine bodyPost_ret (v := .tuple #[.agg #[.int .i64 0, .string ⟨#[]⟩, .int .i64 0, .int .i64 0], .int .i64 4, .int .i64 k]) (by simp only [results, Tryz.results153]; go_simp) rfl ⟨?_, .inl ⟨4, k, wr_glued HC.out HL.out (by rw [if_pos HM.out]) HE.out.symm he HH.out (Int.not_lt.2 HHb.out) hlt hq, rfl⟩⟩
            ((with_reducible (repeat (first | exact bR _ _ | apply bS | apply bA | apply bD | refine bT ?_ (by assumption) ?_ | refine bO (by assumption) ?_ ?_))) <;> (first | omega | (simp <;> omega)))
    · have hst := hQ0 ((run_step hlt hp).trans HK.out)
      have hst2 := hQ0 ((num_step hlt hp).trans HN.out)
      have hd : 48 ≤ cOf s k ∧ cOf s k ≤ 57 := by simpa [digB] using hp
      obtain ⟨hd1, hd2⟩ := hd
      go_wp2_with (first | (go_at_call 183; refine (let_any _ _).mono ?_; rintro e w' ⟨rfl, rfl⟩) | (go_at_call 184; refine (dig_any _ _).mono ?_; rintro e w' ⟨rfl, rfl⟩))
      all_goals
       go_round
       case rel => exact ⟨k + 1, min (10 * n + (cOf s k - 48)) 2147483648, by omega, by omega, by go_num, by congr 1; omega, by omega, by omega, hst.out, hst2.out⟩
       case measure => simp [intOf]; omega
  · have hEk : k = E := by rw [← HK.out]; exact (run_stop (fun h => hlt h.1)).symm
    have hVk : n = V := by rw [← HN.out]; exact (num_stop (fun h => hlt h.1)).symm
    subst hEk hVk
    clear HK HN
    by_cases he : k = i + 1
    · have he2 : ((k : Int) == (i : Int) + 1) = true := by simp; omega
      have HH := hQ0 (HE.out.symm.trans he)
      clear he
      go_wp2_with (first | (go_at_call 183; refine (let_any _ _).mono ?_; rintro e w' ⟨rfl, rfl⟩) | (go_at_call 184; refine (dig_any _ _).mono ?_; rintro e w' ⟨rfl, rfl⟩))
      refine bodyPost_ret (v := .tuple #[.agg #[.int .i64 0, .string ⟨#[]⟩, .int .i64 0, .int .i64 0], .int .i64 4, .int .i64 i]) (by simp only [results, Tryz.results153]; go_simp) rfl ⟨?_, .inl ⟨4, i, wr_nodig HC.out HL.out (by rw [if_pos HM.out]) HH.out, rfl⟩⟩
      ((with_reducible (repeat (first | exact bR _ _ | apply bS | apply bA | apply bD | refine bT ?_ (by assumption) ?_ | refine bO (by assumption) ?_ ?_))) <;> (first | omega | (simp <;> omega)))
    · have he2 : ((k : Int) == (i : Int) + 1) = false := by simp; omega
      have HN := hQ0 (fun h => he (HE.out.trans h) : run digB s (i + 1) ≠ i + 1)
      by_cases hb : 1073741824 < n
      · have HH : Hid (1073741824 < num 1073741825 s (i + 1) 0) := by rcases HR.out with h | h; exact absurd hb (by omega); exact h.2
        go_wp2_with (first | (go_at_call 183; refine (let_any _ _).mono ?_; rintro e w' ⟨rfl, rfl⟩) | (go_at_call 184; refine (dig_any _ _).mono ?_; rintro e w' ⟨rfl, rfl⟩))
        refine bodyPost_ret (v := .tuple #[.agg #[.int .i64 0, .string ⟨#[]⟩, .int .i64 0, .int .i64 0], .int .i64 5, .int .i64 i]) (by simp only [results, Tryz.results153]; go_simp) rfl ⟨?_, .inl ⟨5, i, wr_range HC.out HL.out (by rw [if_pos HM.out]) HN.out HH.out, rfl⟩⟩
        ((with_reducible (repeat (first | exact bR _ _ | apply bS | apply bA | apply bD | refine bT ?_ (by assumption) ?_ | refine bO (by assumption) ?_ ?_))) <;> (first | omega | (simp <;> omega)))
      · have HH : Hid (num 1073741825 s (i + 1) 0 = n) := by rcases HR.out with h | h; exact h.1.symm; exact absurd h.1 hb
        have HHb : Hid (n ≤ 1073741824) := Int.not_lt.1 hb
        go_wp2_with (first | (go_at_call 183; refine (let_any _ _).mono ?_; rintro e w' ⟨rfl, rfl⟩) | (go_at_call 184; refine (dig_any _ _).mono ?_; rintro e w' ⟨rfl, rfl⟩))
        refine bodyPost_ret (v := .tuple #[.agg #[.int .i64 2, .string (s.extract i k), .int .i64 (-n), .int .i64 i], .int .i64 0, .int .i64 0]) (by simp only [results, Tryz.results153]; go_simp) rfl ⟨?_, .inr ⟨2, s.extract i k, -n, k, ?_, rfl⟩⟩
        · ((with_reducible (repeat (first | exact bR _ _ | apply bS | apply bA | apply bD | refine bT ?_ (by assumption) ?_ | refine bO (by assumption) ?_ ?_))) <;> (first | omega | (simp <;> omega)))
        · rw [wr_num HC.out HL.out (by rw [if_pos HM.out]) HE.out.symm he HH.out (Int.not_lt.2 HHb.out) (fun h => hlt h.1), if_pos HM.out]
set_option maxRecDepth 100000 in
set_option maxHeartbeats 800000 in
theorem word_plain (s : ByteArray) (i : Nat) (w : World) (hs : s.size ≤ 20000) (hi : i < s.size) (hc : cOf s i ≠ 59) (hl : letB (cOf s i) = false) (hm : cOf s i ≠ 45) :
  Calls Tryz.prog 153 #[.string s, .int .i64 i] w (WordOut s i w.heap.size w) := by
 have hB : (cOf s i == 59) = false := by simp [hc]
 have hM : (cOf s i == 45) = false := by simp [hm]
 have HC := hQ0 hc
 have HM := hQ0 hm
 have HL := hQ0 hl
 clear hc hm
 have hle := run_le digB s (i := i) (by omega)
 have hge := run_ge digB s (i)
 go_enter Tryz.func153, Tryz.ntmps153; (try simp only [List.append_eq, List.cons_append, List.nil_append])
 go_wp2_with (first | (go_at_call 183; refine (let_any _ _).mono ?_; rintro e w' ⟨rfl, rfl⟩) | (go_at_call 184; refine (dig_any _ _).mono ?_; rintro e w' ⟨rfl, rfl⟩))
 obtain ⟨E, hE⟩ : ∃ E, E = run digB s (i) := ⟨_, rfl⟩
 obtain ⟨V, hV⟩ : ∃ V, V = num 2147483648 s (i) 0 := ⟨_, rfl⟩
 have HR : Hid (V = num 1073741825 s (i) 0 ∧ V ≤ 1073741824 ∨ 1073741824 < V ∧ 1073741824 < num 1073741825 s (i) 0) := by rw [hV]; exact num_rel s _
 rw [← hE] at hle hge
 have HE := hQ0 hE
 have HV := hQ0 hV
 clear hE hV
 go_loop [7, 9] (fun t u => ∃ (k : Nat) (n : Int), i ≤ k ∧ k ≤ s.size ∧ t = .int .i64 k ∧ u = .int .i64 n ∧ 0 ≤ n ∧ n ≤ 2147483648 ∧ Hid (run digB s k = E) ∧ Hid (num 2147483648 s k n = V)) (fun t _ => s.size - (intOf t).toNat)
 case atStart => exact ⟨i, 0, Nat.le_refl _, by omega, by go_num, rfl, by omega, by omega, HE.out.symm, HV.out.symm⟩
 case round =>
  obtain ⟨k, n, hk0, hk, rfl, rfl, hn0, hn1, HK, HN⟩ := hrel
  have hcb := cOf_bd s k
  obtain ⟨hcb1, hcb2⟩ := hcb
  by_cases hlt : k < s.size
  · cases hp : digB (cOf s k)
    · have hEk : k = E := by rw [← HK.out]; exact (run_stop (fun h => by rw [hp] at h; exact absurd h.2 (by simp))).symm
      have hVk : n = V := by rw [← HN.out]; exact (num_stop (fun h => by rw [hp] at h; exact absurd h.2 (by simp))).symm
      subst hEk hVk
      clear HK HN
      by_cases he : k = i
      · have he2 : ((k : Int) == (i : Int)) = true := by simp; omega
        have HH := hQ0 (HE.out.symm.trans he)
        clear he
        go_wp2_with (first | (go_at_call 183; refine (let_any _ _).mono ?_; rintro e w' ⟨rfl, rfl⟩) | (go_at_call 184; refine (dig_any _ _).mono ?_; rintro e w' ⟨rfl, rfl⟩))
        refine bodyPost_ret (v := .tuple #[.agg #[.int .i64 0, .string ⟨#[]⟩, .int .i64 0, .int .i64 0], .int .i64 4, .int .i64 i]) (by simp only [results, Tryz.results153]; go_simp) rfl ⟨?_, .inl ⟨4, i, wr_nodig HC.out HL.out (by rw [if_neg HM.out]) HH.out, rfl⟩⟩
        ((with_reducible (repeat (first | exact bR _ _ | apply bS | apply bA | apply bD | refine bT ?_ (by assumption) ?_ | refine bO (by assumption) ?_ ?_))) <;> (first | omega | (simp <;> omega)))
      · have he2 : ((k : Int) == (i : Int)) = false := by simp; omega
        have HN := hQ0 (fun h => he (HE.out.trans h) : run digB s (i) ≠ i)
        by_cases hb : 1073741824 < n
        · have HH : Hid (1073741824 < num 1073741825 s (i) 0) := by rcases HR.out with h | h; exact absurd hb (by omega); exact h.2
          go_wp2_with (first | (go_at_call 183; refine (let_any _ _).mono ?_; rintro e w' ⟨rfl, rfl⟩) | (go_at_call 184; refine (dig_any _ _).mono ?_; rintro e w' ⟨rfl, rfl⟩))
          refine bodyPost_ret (v := .tuple #[.agg #[.int .i64 0, .string ⟨#[]⟩, .int .i64 0, .int .i64 0], .int .i64 5, .int .i64 i]) (by simp only [results, Tryz.results153]; go_simp) rfl ⟨?_, .inl ⟨5, i, wr_range HC.out HL.out (by rw [if_neg HM.out]) HN.out HH.out, rfl⟩⟩
          ((with_reducible (repeat (first | exact bR _ _ | apply bS | apply bA | apply bD | refine bT ?_ (by assumption) ?_ | refine bO (by assumption) ?_ ?_))) <;> (first | omega | (simp <;> omega)))
        · have HH : Hid (num 1073741825 s (i) 0 = n) := by rcases HR.out with h | h; exact h.1.symm; exact absurd h.1 hb
          have HHb : Hid (n ≤ 1073741824) := Int.not_lt.1 hb
          cases hq : letB (cOf s k)
          · go_wp2_with (first | (go_at_call 183; refine (let_any _ _).mono ?_; rintro e w' ⟨rfl, rfl⟩) | (go_at_call 184; refine (dig_any _ _).mono ?_; rintro e w' ⟨rfl, rfl⟩))
            refine bodyPost_ret (v := .tuple #[.agg #[.int .i64 2, .string (s.extract i k), .int .i64 (n), .int .i64 i], .int .i64 0, .int .i64 0]) (by simp only [results, Tryz.results153]; go_simp) rfl ⟨?_, .inr ⟨2, s.extract i k, n, k, ?_, rfl⟩⟩
            · ((with_reducible (repeat (first | exact bR _ _ | apply bS | apply bA | apply bD | refine bT ?_ (by assumption) ?_ | refine bO (by assumption) ?_ ?_))) <;> (first | omega | (simp <;> omega)))
            · rw [wr_num HC.out HL.out (by rw [if_neg HM.out]) HE.out.symm he HH.out (Int.not_lt.2 HHb.out) (fun h => by rw [hq] at h; exact absurd h.2 (by simp)), if_neg HM.out]
          · go_wp2_with (first | (go_at_call 183; refine (let_any _ _).mono ?_; rintro e w' ⟨rfl, rfl⟩) | (go_at_call 184; refine (dig_any _ _).mono ?_; rintro e w' ⟨rfl, rfl⟩))
            refine bodyPost_ret (v := .tuple #[.agg #[.int .i64 0, .string ⟨#[]⟩, .int .i64 0, .int .i64 0], .int .i64 4, .int .i64 k]) (by simp only [results, Tryz.results153]; go_simp) rfl ⟨?_, .inl ⟨4, k, wr_glued HC.out HL.out (by rw [if_neg HM.out]) HE.out.symm he HH.out (Int.not_lt.2 HHb.out) hlt hq, rfl⟩⟩
            ((with_reducible (repeat (first | exact bR _ _ | apply bS | apply bA | apply bD | refine bT ?_ (by assumption) ?_ | refine bO (by assumption) ?_ ?_))) <;> (first | omega | (simp <;> omega)))
    · have hst := hQ0 ((run_step hlt hp).trans HK.out)
      have hst2 := hQ0 ((num_step hlt hp).trans HN.out)
      have hd : 48 ≤ cOf s k ∧ cOf s k ≤ 57 := by simpa [digB] using hp
      obtain ⟨hd1, hd2⟩ := hd
      go_wp2_with (first | (go_at_call 183; refine (let_any _ _).mono ?_; rintro e w' ⟨rfl, rfl⟩) | (go_at_call 184; refine (dig_any _ _).mono ?_; rintro e w' ⟨rfl, rfl⟩))
      all_goals
       go_round
       case rel => exact ⟨k + 1, min (10 * n + (cOf s k - 48)) 2147483648, by omega, by omega, by go_num, by congr 1; omega, by omega, by omega, hst.out, hst2.out⟩
       case measure => simp [intOf]; omega
  · have hEk : k = E := by rw [← HK.out]; exact (run_stop (fun h => hlt h.1)).symm
    have hVk : n = V := by rw [← HN.out]; exact (num_stop (fun h => hlt h.1)).symm
    subst hEk hVk
    clear HK HN
    by_cases he : k = i
    · have he2 : ((k : Int) == (i : Int)) = true := by simp; omega
      have HH := hQ0 (HE.out.symm.trans he)
      clear he
      go_wp2_with (first | (go_at_call 183; refine (let_any _ _).mono ?_; rintro e w' ⟨rfl, rfl⟩) | (go_at_call 184; refine (dig_any _ _).mono ?_; rintro e w' ⟨rfl, rfl⟩))
      refine bodyPost_ret (v := .tuple #[.agg #[.int .i64 0, .string ⟨#[]⟩, .int .i64 0, .int .i64 0], .int .i64 4, .int .i64 i]) (by simp only [results, Tryz.results153]; go_simp) rfl ⟨?_, .inl ⟨4, i, wr_nodig HC.out HL.out (by rw [if_neg HM.out]) HH.out, rfl⟩⟩
      ((with_reducible (repeat (first | exact bR _ _ | apply bS | apply bA | apply bD | refine bT ?_ (by assumption) ?_ | refine bO (by assumption) ?_ ?_))) <;> (first | omega | (simp <;> omega)))
    · have he2 : ((k : Int) == (i : Int)) = false := by simp; omega
      have HN := hQ0 (fun h => he (HE.out.trans h) : run digB s (i) ≠ i)
      by_cases hb : 1073741824 < n
      · have HH : Hid (1073741824 < num 1073741825 s (i) 0) := by rcases HR.out with h | h; exact absurd hb (by omega); exact h.2
        go_wp2_with (first | (go_at_call 183; refine (let_any _ _).mono ?_; rintro e w' ⟨rfl, rfl⟩) | (go_at_call 184; refine (dig_any _ _).mono ?_; rintro e w' ⟨rfl, rfl⟩))
        refine bodyPost_ret (v := .tuple #[.agg #[.int .i64 0, .string ⟨#[]⟩, .int .i64 0, .int .i64 0], .int .i64 5, .int .i64 i]) (by simp only [results, Tryz.results153]; go_simp) rfl ⟨?_, .inl ⟨5, i, wr_range HC.out HL.out (by rw [if_neg HM.out]) HN.out HH.out, rfl⟩⟩
        ((with_reducible (repeat (first | exact bR _ _ | apply bS | apply bA | apply bD | refine bT ?_ (by assumption) ?_ | refine bO (by assumption) ?_ ?_))) <;> (first | omega | (simp <;> omega)))
      · have HH : Hid (num 1073741825 s (i) 0 = n) := by rcases HR.out with h | h; exact h.1.symm; exact absurd h.1 hb
        have HHb : Hid (n ≤ 1073741824) := Int.not_lt.1 hb
        go_wp2_with (first | (go_at_call 183; refine (let_any _ _).mono ?_; rintro e w' ⟨rfl, rfl⟩) | (go_at_call 184; refine (dig_any _ _).mono ?_; rintro e w' ⟨rfl, rfl⟩))
        refine bodyPost_ret (v := .tuple #[.agg #[.int .i64 2, .string (s.extract i k), .int .i64 (n), .int .i64 i], .int .i64 0, .int .i64 0]) (by simp only [results, Tryz.results153]; go_simp) rfl ⟨?_, .inr ⟨2, s.extract i k, n, k, ?_, rfl⟩⟩
        · ((with_reducible (repeat (first | exact bR _ _ | apply bS | apply bA | apply bD | refine bT ?_ (by assumption) ?_ | refine bO (by assumption) ?_ ?_))) <;> (first | omega | (simp <;> omega)))
        · rw [wr_num HC.out HL.out (by rw [if_neg HM.out]) HE.out.symm he HH.out (Int.not_lt.2 HHb.out) (fun h => hlt h.1), if_neg HM.out]
theorem word_any (s : ByteArray) (i : Nat) (w : World) (hs : s.size ≤ 20000) (hi : i < s.size) : Calls Tryz.prog 153 #[.string s, .int .i64 i] w (WordOut s i w.heap.size w) := by
 by_cases hc : cOf s i = 59
 · exact word_semi s i w hs hi hc
 · cases hl : letB (cOf s i)
   · by_cases hm : cOf s i = 45
     · exact word_minus s i w hs hi hc hl hm
     · exact word_plain s i w hs hi hc hl hm
   · exact word_name s i w hs hi hc hl
attribute [local go_sem] cOf_get
def nameB (s : ByteArray) : Bool := decide (1 ≤ s.size ∧ s.size ≤ 12 ∧ letB (cOf s 0) = true ∧ run alnumB s 0 = s.size)
theorem rune_at (s : ByteArray) (pos : Nat) (h : pos < s.size) : (Utf8.decode s pos = ((cOf s pos).toNat, 1) ∧ cOf s pos < 128) ∨ (128 ≤ (Utf8.decode s pos).1 ∧ 128 ≤ cOf s pos) := by
 have e := cOf_get h
 by_cases ha : (s[pos]'h).toNat < 128
 · left
   rw [decode_ascii s pos h ha]
   exact ⟨by rw [← e]; rfl, by omega⟩
 · right
   exact ⟨(decode_high s pos h (by omega)).1, by omega⟩
theorem nameB_bad {s : ByteArray} {k : Nat} (hk : k < s.size) (h : alnumB (cOf s k) = false) (hr : run alnumB s k = run alnumB s 0) : nameB s = false := by
 unfold nameB
 rw [decide_eq_false_iff_not]
 rintro ⟨_, _, _, h4⟩
 rw [run_stop (fun hh => by rw [h] at hh; exact absurd hh.2 (by simp))] at hr
 omega
theorem nameB_first {s : ByteArray} (h : letB (cOf s 0) = false) : nameB s = false := by
 unfold nameB
 rw [decide_eq_false_iff_not]
 rintro ⟨_, _, h3, _⟩
 rw [h] at h3; exact absurd h3 (by simp)
theorem alnum_ge {c : Int} (h : 128 ≤ c) : alnumB c = false := by
 simp [alnumB, letB, digB]; omega
set_option maxRecDepth 1000000 in
set_option maxHeartbeats 1000000 in
theorem name_any (s : ByteArray) (w : World) (hm : s.size ≤ maxLen) :
    Calls Tryz.prog 78 #[.string s] w fun e w' => e = .returned (.bool (nameB s)) ∧ Below w.heap.size w w' := by
  unfold maxLen at hm
  go_enter Tryz.func78, Tryz.ntmps78; (try simp only [List.append_eq, List.cons_append, List.nil_append])
  go_wp2
  go_loopw [] (fun w' => ∃ pos : Nat, w' = w.iter s pos ∧ pos ≤ s.size ∧ Hid (run alnumB s pos = run alnumB s 0) ∧ Hid (0 < pos → letB (cOf s 0) = true)) (fun w' => s.size - w'.iterPos w.heap.size)
  case atStart => exact ⟨0, rfl, by omega, rfl, fun h => absurd h (by omega)⟩
  case round =>
    obtain ⟨pos, rfl, hps, HR, HL⟩ := hrel
    by_cases hp : pos < s.size
    · have hnx : ∀ ty, (Instr.next (.pointer (some ⟨w.heap.size, 0, none⟩)) true ty).run Tryz.prog (w.iter s pos) = _ := fun ty => run_next_any w s pos ty hp
      rcases rune_at s pos hp with ⟨hd, hc⟩ | ⟨hd, hc⟩
      · rw [hd] at hnx
        have hcb := (cOf_bd s pos).1
        have hcn : (((cOf s pos).toNat : Nat) : Int) = cOf s pos := Int.toNat_of_nonneg hcb
        simp only [hcn] at hnx
        cases hl : letB (cOf s pos)
        · have HP := hQ0 hl
          have hl' : (¬ 97 ≤ cOf s pos) ∨ (97 ≤ cOf s pos ∧ ¬ cOf s pos ≤ 122) := by simp [letB] at hl; omega
          clear hl hd
          by_cases h0 : pos = 0
          · subst h0
            rcases hl' with hl' | ⟨hl', hl2'⟩
            all_goals
              go_wp2
              go_ret
              refine ⟨ret_bool ?_, ?_⟩
              · rw [nameB_first HP.out]
              · exact (Below.refl _ _).alloc (Nat.le_refl _) _
          · have h0' : ((pos : Int) == 0) = false := by simp; omega
            cases hdg : digB (cOf s pos)
            · have hbad := hQ0 (nameB_bad hp (show alnumB (cOf s pos) = false by simp [alnumB, HP.out, hdg]) HR.out)
              have hd' : (cOf s pos < 48) ∨ (¬ cOf s pos < 48 ∧ 57 < cOf s pos) := by simp [digB] at hdg; omega
              clear hdg
              rcases hl' with hl' | ⟨hl', hl2'⟩ <;> rcases hd' with hd' | ⟨hd', hd2'⟩
              all_goals first
                | (exfalso; omega)
                | (go_wp2
                   go_ret
                   refine ⟨ret_bool ?_, ?_⟩
                   · rw [hbad.out]
                   · exact (Below.refl _ _).alloc (Nat.le_refl _) _)
            · have hd' : 48 ≤ cOf s pos ∧ cOf s pos ≤ 57 := by simpa [digB] using hdg
              have hst := hQ0 ((run_step hp (show alnumB (cOf s pos) = true by simp [alnumB, hdg])).trans HR.out)
              obtain ⟨hd1, hd2⟩ := hd'
              clear hdg hl'
              have hl1 : ¬ 97 ≤ cOf s pos := by omega
              have hd3 : ¬ cOf s pos < 48 := by omega
              have hd4 : ¬ 57 < cOf s pos := by omega
              go_wp2
              go_roundw
              case rel => exact ⟨pos + 1, rfl, by omega, hst.out, fun _ => HL.out (by omega)⟩
              case measure => simp; omega
        · have hl' : 97 ≤ cOf s pos ∧ cOf s pos ≤ 122 := by simpa [letB] using hl
          have hst := hQ0 ((run_step hp (show alnumB (cOf s pos) = true by simp [alnumB, hl])).trans HR.out)
          obtain ⟨hl1, hl2⟩ := hl'
          have HP := hQ0 hl
          clear hl hd
          go_wp2
          go_roundw
          case rel => exact ⟨pos + 1, rfl, by omega, hst.out, fun _ => by
            rcases Nat.eq_zero_or_pos pos with h | h
            · have := HP.out; rw [h] at this; exact this
            · exact HL.out h⟩
          case measure => simp; omega
      · have hbad := hQ0 (nameB_bad hp (alnum_ge hc) HR.out)
        obtain ⟨r, hr⟩ : ∃ r, r = (Utf8.decode s pos).1 := ⟨_, rfl⟩
        rw [← hr] at hd hnx
        have hr1 : ¬ (r : Int) ≤ 122 := by omega
        have hr2 : (97 : Int) ≤ (r : Int) := by omega
        have hr3 : (57 : Int) < (r : Int) := by omega
        have hr4 : ¬ (r : Int) < 48 := by omega
        have hr5 : r ≤ 2147483647 := by rw [hr]; exact decode_le s pos
        clear hr hc
        by_cases h0 : pos = 0
        · subst h0
          go_wp2
          go_ret
          refine ⟨ret_bool ?_, ?_⟩
          · rw [hbad.out]
          · exact (Below.refl _ _).alloc (Nat.le_refl _) _
        · have h0' : ((pos : Int) == 0) = false := by simp; omega
          go_wp2
          go_ret
          refine ⟨ret_bool ?_, ?_⟩
          · rw [hbad.out]
          · exact (Below.refl _ _).alloc (Nat.le_refl _) _
    · have hnx : ∀ ty, (Instr.next (.pointer (some ⟨w.heap.size, 0, none⟩)) true ty).run Tryz.prog (w.iter s pos) = _ := fun ty => run_next_end w s pos ty hp
      obtain rfl : pos = s.size := by omega
      have he0 : nameB s = (decide (1 ≤ s.size) && decide (s.size ≤ 12)) := by
        unfold nameB
        have hrr := HR.out
        rw [run_stop (fun h => absurd h.1 (by omega))] at hrr
        rcases Nat.eq_zero_or_pos s.size with h | h
        · simp [h]
        · have h2 := HL.out h
          simp [h2, ← hrr]
      have he := hQ0 he0
      clear he0
      by_cases c1 : 1 ≤ s.size
      · by_cases c2 : s.size ≤ 12
        · go_wp2
          go_ret
          refine ⟨ret_bool ?_, (Below.refl _ _).alloc (Nat.le_refl _) _⟩
          rw [he.out]; first | (simp [*]; done) | (simp [*]; omega)
        · go_wp2
          go_ret
          refine ⟨ret_bool ?_, (Below.refl _ _).alloc (Nat.le_refl _) _⟩
          rw [he.out]; first | (simp [*]; done) | (simp [*]; omega)
      · go_wp2
        go_ret
        refine ⟨ret_bool ?_, (Below.refl _ _).alloc (Nat.le_refl _) _⟩
        rw [he.out]; first | (simp [*]; done) | (simp [*]; omega)
end Go.Proofs.YtbpcjpiaimdpnaaGreatDoor
namespace Go.Proofs.YtbpcjpiaimdpnaaGreatDoor
open Go Go.RowKit Go.Maps
set_option linter.unusedVariables false
abbrev HU := Unit
def uT : DataW HU := .lit (.bool true)
def kl (s : ByteArray) : Lit := .string s.data.toList
theorem atKey_fold (u z : DataW HU) (k : Lit) : ∀ (acc : List Lit) (m : DataW HU), IsMap m → (∀ x ∈ acc, WideAt.IsKeyLit x) → (k ∈ acc → (acc.foldl (fun m x => m.put x u) m).atKey k z = u) ∧ (¬ k ∈ acc → (acc.foldl (fun m x => m.put x u) m).atKey k z = m.atKey k z)
 | [], m, hm, h => ⟨fun h => by simp at h, fun _ => rfl⟩
 | x :: l, m, hm, h => by
  rw [List.foldl_cons]
  obtain ⟨h1, h2⟩ := atKey_fold u z k l _ (hm.put x u) fun y hy => h y (by simp [hy])
  by_cases h3 : k ∈ l
  · exact ⟨fun _ => h1 h3, fun hn => absurd (List.mem_cons_of_mem _ h3) hn⟩
  · refine ⟨fun hk => ?_, fun hn => ?_⟩
    · rcases List.mem_cons.1 hk with e | hk
      · subst e
        rw [h2 h3, atKey_put_same hm (h k (by simp))]
      · exact absurd hk h3
    · rw [h2 h3, atKey_put_other fun e => hn (by rw [e]; simp)]
theorem kl_inj {a b : ByteArray} (h : kl a = kl b) : a = b := by
 unfold kl at h
 simp only [Lit.string.injEq] at h
 exact ByteArray.ext (Array.toList_inj.1 h)
def SeenAt (w : World) (b n : Nat) (L : List ByteArray) : Prop := w.ownsMap Tryz.prog 9 (plainElem (H := HU) Tryz.prog 4) b n (setOf uT (L.map kl)) ∧ ∀ s ∈ L, s.size ≤ maxLen
theorem seen_key (s : ByteArray) (h : s.size ≤ maxLen) : keyOf Tryz.prog 9 (.string s) = some (kl s) := WideMaps.keyOf_string_mk Tryz.underlying9 h
theorem kl_isKey (s : ByteArray) : WideAt.IsKeyLit (kl s) := by first | trivial | exact True.intro | (unfold kl; simp [WideAt.IsKeyLit])
def hasN (L : List ByteArray) (s : ByteArray) : Bool := L.any fun t => decide (t = s)
theorem hasN_iff {L : List ByteArray} {s : ByteArray} : hasN L s = true ↔ s ∈ L := by
 unfold hasN
 rw [List.any_eq_true]
 exact ⟨fun ⟨t, h1, h2⟩ => by rw [← of_decide_eq_true h2]; exact h1, fun h => ⟨s, h, decide_eq_true rfl⟩⟩
theorem plainElem_bool_inv {P : Program} {e : TypeId} (he : P.underlying e = some .bool) {v : Value} {z : DataW HU × List MemPlace} (h : plainElem P e v = some z) : ∃ a, v = .bool a ∧ z = (.lit (.bool a), []) := by
 unfold plainElem at h
 rw [he] at h
 cases v <;> simp at h
 exact ⟨_, rfl, h.symm⟩
theorem SeenAt.look {w : World} {b n : Nat} {L : List ByteArray} (h : SeenAt w b n L) (s : ByteArray) (hs : s.size ≤ maxLen) : (Instr.lookup 69 (.map (some b)) (.string s) false).run Tryz.prog w = .ok (.bool (hasN L s)) w := by
 obtain ⟨v, ps, hrun, hv⟩ := World.ownsMap.lookup h.1 (string_keyed Tryz.underlying9) Tryz.underlying69 (z := .bool false) (by kernel_rfl) (plainElem_bool Tryz.underlying4 false) (seen_key s hs)
 obtain ⟨a, rfl, hz⟩ := plainElem_bool_inv Tryz.underlying4 hv
 simp only [Prod.mk.injEq] at hz
 have h1 := hz.1
 unfold setOf at h1
 obtain ⟨k1, k2⟩ := atKey_fold uT (.lit (.bool false)) (kl s) (L.map kl) (.map []) isMap_empty (fun x hx => by obtain ⟨y, _, rfl⟩ := List.mem_map.1 hx; exact kl_isKey y)
 have hmem : kl s ∈ L.map kl ↔ s ∈ L := ⟨fun hx => by obtain ⟨y, hy, e⟩ := List.mem_map.1 hx; rwa [← kl_inj e], fun hx => List.mem_map_of_mem hx⟩
 have key : a = hasN L s := by
  by_cases hm : s ∈ L
  · rw [k1 (hmem.2 hm)] at h1
    rw [hasN_iff.2 hm]
    unfold uT at h1
    simp only [DataW.lit.injEq, Lit.bool.injEq] at h1
    exact h1.symm
  · rw [k2 (fun e => hm (hmem.1 e))] at h1
    have h2 : hasN L s = false := by
     cases h : hasN L s with
     | false => rfl
     | true => exact absurd (hasN_iff.1 h) hm
    rw [h2]
    have h3 : (DataW.map [] : DataW HU).atKey (kl s) (.lit (.bool false)) = .lit (.bool false) := rfl
    rw [h3] at h1
    simp only [DataW.lit.injEq, Lit.bool.injEq] at h1
    exact h1.symm
 rw [hrun, key]
theorem SeenAt.kept {w w' : World} {b n : Nat} {L : List ByteArray} {row : Option Nat} (h : SeenAt w b n L) (hg : w.grownBy w' row) (hne : some b ≠ row) : SeenAt w' b n L := ⟨h.1.kept hg hne, h.2⟩
theorem SeenAt.block {w w' : World} {b n : Nat} {L : List ByteArray} (h : SeenAt w b n L) (hb : w'.heap[b]? = w.heap[b]?) : SeenAt w' b n L := by
 obtain ⟨⟨es, clock, h1, h2⟩, h3⟩ := h
 exact ⟨⟨es, clock, hb.trans h1, h2⟩, h3⟩
theorem SeenAt.lt {w : World} {b n : Nat} {L : List ByteArray} (h : SeenAt w b n L) : b < w.heap.size := h.1.lt
theorem SeenAt.new (w : World) : SeenAt (w.alloc (.map #[] 0)) w.heap.size 0 [] := ⟨World.ownsMap_made w Tryz.prog 9 _, by simp⟩
structure CkAt (w : World) (cb mb n : Nat) (e : Int) (L : List ByteArray) : Prop where
  c0 : w.cell? ⟨cb, 0, none⟩ = some (.map (some mb))
  c1 : w.cell? ⟨cb, 1, none⟩ = some (.int .i64 e)
  fz : ∀ o, w.frozen? ⟨cb, o, none⟩ = false
  lt : cb < w.heap.size
  ne : cb ≠ mb
  sn : SeenAt w mb n L
theorem CkAt.below {w w' : World} {cb mb n B : Nat} {e : Int} {L : List ByteArray} (h : CkAt w cb mb n e L) (hb : Below B w w') (hB : w.heap.size ≤ B) : CkAt w' cb mb n e L := by
 have hr := hb.block cb (Nat.lt_of_lt_of_le h.lt hB)
 exact ⟨(World.cell?_of_block (a := ⟨cb, 0, none⟩) hr).trans h.c0, (World.cell?_of_block (a := ⟨cb, 1, none⟩) hr).trans h.c1, fun o => (World.frozen?_of_block (a := ⟨cb, o, none⟩) hr).trans (h.fz o), Nat.lt_of_lt_of_le h.lt hb.size, h.ne, h.sn.block (hb.block mb (Nat.lt_of_lt_of_le h.sn.lt hB))⟩
def lookC (L : List ByteArray) (nm : ByteArray) (f s : Bool) : Int := if nameB nm = false then 6 else if hasN L nm = true then 7 else if f = false then 5 else if s = false then 10 else 0
def lookR (st : Int × List ByteArray) (nm : ByteArray) (f s : Bool) : Int × List ByteArray := if st.1 ≠ 0 then st else (lookC st.2 nm f s, st.2 ++ [nm])
def LookOut (B cb mb n : Nat) (R : Int × List ByteArray) (w : World) (ε : Ending) (w' : World) : Prop := ε = .returned (.tuple #[]) ∧ Below B w w' ∧ CkAt w' cb mb (n + 1) R.1 R.2
theorem setOf_put (L : List ByteArray) (nm : ByteArray) : (setOf uT (L.map kl)).put (kl nm) uT = setOf uT ((L ++ [nm]).map kl) := by rw [List.map_append, List.map_cons, List.map_nil, setOf_snoc]
set_option maxRecDepth 100000 in
set_option maxHeartbeats 2000000 in
theorem look_same (w : World) (cb mb n B : Nat) (e : Int) (L : List ByteArray) (nm : ByteArray) (f s : Bool) (h : CkAt w cb mb n e L) (he : e ≠ 0) :
  Calls Tryz.prog 27 #[.pointer (some ⟨cb, 0, none⟩), .string nm, .bool f, .bool s] w fun ε w' => ε = .returned (.tuple #[]) ∧ w = w' := by
 obtain ⟨c0, c1, fz, lt, ne, sn⟩ := h
 have he' : (e != 0) = true := by simpa using he
 clear sn he
 go_enter Tryz.func27, Tryz.ntmps27; (try simp only [List.append_eq, List.cons_append, List.nil_append])
 go_wp2_with fail
 exact bodyPost_ret (v := .tuple #[]) (by simp only [results, Tryz.results27]; go_simp) rfl ⟨rfl, rfl⟩
set_option maxRecDepth 100000 in
set_option maxHeartbeats 8000000 in
theorem look_new (w : World) (cb mb n B : Nat) (L : List ByteArray) (nm : ByteArray) (f s : Bool) (h : CkAt w cb mb n 0 L) (hm : nm.size ≤ maxLen) (hn : n < maxLen) (hB : B ≤ cb) (hBm : B ≤ mb) :
  Calls Tryz.prog 27 #[.pointer (some ⟨cb, 0, none⟩), .string nm, .bool f, .bool s] w (LookOut B cb mb n (lookR (0, L) nm f s) w) := by
 have HCK := hQ0 h
 have hlt := h.lt
 obtain ⟨hd, hhd⟩ : ∃ b, b = hasN L nm := ⟨_, rfl⟩
 have HHD := hQ0 hhd
 have HNM := hQ0 (name_any nm w hm)
 obtain ⟨nb, hnb⟩ : ∃ b, b = nameB nm := ⟨_, rfl⟩
 rw [← hnb] at HNM
 obtain ⟨R, hRR⟩ : ∃ R, R = lookR (0, L) nm f s := ⟨_, rfl⟩
 have hR : R = (if nb = false then 6 else if hd = true then 7 else if f = false then 5 else if s = false then 10 else 0, L ++ [nm]) := by rw [hRR]; unfold lookR lookC; rw [if_neg (by simp), hnb, hhd]
 rw [← hRR]
 obtain ⟨c0, c1, fz, lt, ne, sn⟩ := h
 clear sn hhd hnb hRR
 go_enter Tryz.func27, Tryz.ntmps27; (try simp only [List.append_eq, List.cons_append, List.nil_append])
 cases nb
 · have HR := hQ0 (show R = (6, L ++ [nm]) by rw [hR]; simp)
   clear hR
   go_wp2_with fail
   (go_at_call 78; refine (HNM.out).mono ?_; rintro ε w1 ⟨rfl, hb1⟩)
   have hz1 := hb1.size
   obtain ⟨c0, c1, fz, lt, ne, sn⟩ := HCK.out.below hb1 (Nat.le_refl _)
   have HS := hQ0 sn
   have hlk := sn.look nm hm
   rw [← HHD.out] at hlk
   clear sn
   have HS1 := hQ0 (HS.out.block (Below.heap_setCell w1 ⟨cb, 1, none⟩ _ mb (Ne.symm ne)) : SeenAt (w1.setCell ⟨cb, 1, none⟩ (.int .i64 6)) mb n L)
   go_wp2_with (at_mapUpdate; refine wpList_mapUpdate_own _ rfl _ _ _ 69 rfl 9 4 (string_keyed Tryz.underlying9) Tryz.underlying69 _ mb n _ rfl HS1.out.1 hn _ _ (kl nm) rfl rfl (seen_key nm hm) uT [] (plainElem_bool Tryz.underlying4 true) ?_; intro w2 hown2 hg2)
   refine bodyPost_ret (v := .tuple #[]) (by simp only [results, Tryz.results27]; go_simp) rfl ⟨rfl, ?_⟩
   have hst : Below B w (w1.setCell ⟨cb, 1, none⟩ (.int .i64 6)) := by first | exact hb1.mono (by omega) | exact (hb1.mono (by omega)).setCell (by show B ≤ cb; omega) _
   have hsz : (w1.setCell ⟨cb, 1, none⟩ (.int .i64 6)).heap.size = w1.heap.size := by first | rfl | simp
   have hne1 : cb ≠ mb := ne
   have hr := hg2.block cb (by rw [hsz]; exact lt) (fun h => hne1 (Option.some.inj h))
   refine ⟨hst.grown hg2 (by rw [hsz]; omega) (fun k hk => by obtain rfl := Option.some.inj hk; exact hBm), ?_⟩
   · refine ⟨(World.cell?_of_block (a := ⟨cb, 0, none⟩) hr).trans ?_, (World.cell?_of_block (a := ⟨cb, 1, none⟩) hr).trans ?_, fun o => (World.frozen?_of_block (a := ⟨cb, o, none⟩) hr).trans ?_, ?_, ne, ?_, ?_⟩
     · go_simp
     · rw [HR.out]; go_simp
     · go_simp
     · exact Nat.lt_of_lt_of_le lt (by have := hg2.size; omega)
     · rw [HR.out]; simp only; rw [← setOf_put]; exact hown2
     · rw [HR.out]; intro s hs; rcases List.mem_append.1 hs with h | h
       · exact HS.out.2 s h
       · rw [List.mem_singleton] at h; rw [h]; exact hm
 · cases hd
   · cases f
     · have HR := hQ0 (show R = (5, L ++ [nm]) by rw [hR]; simp)
       clear hR
       go_wp2_with fail
       (go_at_call 78; refine (HNM.out).mono ?_; rintro ε w1 ⟨rfl, hb1⟩)
       have hz1 := hb1.size
       obtain ⟨c0, c1, fz, lt, ne, sn⟩ := HCK.out.below hb1 (Nat.le_refl _)
       have HS := hQ0 sn
       have hlk := sn.look nm hm
       rw [← HHD.out] at hlk
       clear sn
       have HS1 := hQ0 (HS.out.block (Below.heap_setCell w1 ⟨cb, 1, none⟩ _ mb (Ne.symm ne)) : SeenAt (w1.setCell ⟨cb, 1, none⟩ (.int .i64 5)) mb n L)
       go_wp2_with (at_mapUpdate; refine wpList_mapUpdate_own _ rfl _ _ _ 69 rfl 9 4 (string_keyed Tryz.underlying9) Tryz.underlying69 _ mb n _ rfl HS1.out.1 hn _ _ (kl nm) rfl rfl (seen_key nm hm) uT [] (plainElem_bool Tryz.underlying4 true) ?_; intro w2 hown2 hg2)
       refine bodyPost_ret (v := .tuple #[]) (by simp only [results, Tryz.results27]; go_simp) rfl ⟨rfl, ?_⟩
       have hst : Below B w (w1.setCell ⟨cb, 1, none⟩ (.int .i64 5)) := by first | exact hb1.mono (by omega) | exact (hb1.mono (by omega)).setCell (by show B ≤ cb; omega) _
       have hsz : (w1.setCell ⟨cb, 1, none⟩ (.int .i64 5)).heap.size = w1.heap.size := by first | rfl | simp
       have hne1 : cb ≠ mb := ne
       have hr := hg2.block cb (by rw [hsz]; exact lt) (fun h => hne1 (Option.some.inj h))
       refine ⟨hst.grown hg2 (by rw [hsz]; omega) (fun k hk => by obtain rfl := Option.some.inj hk; exact hBm), ?_⟩
       · refine ⟨(World.cell?_of_block (a := ⟨cb, 0, none⟩) hr).trans ?_, (World.cell?_of_block (a := ⟨cb, 1, none⟩) hr).trans ?_, fun o => (World.frozen?_of_block (a := ⟨cb, o, none⟩) hr).trans ?_, ?_, ne, ?_, ?_⟩
         · go_simp
         · rw [HR.out]; go_simp
         · go_simp
         · exact Nat.lt_of_lt_of_le lt (by have := hg2.size; omega)
         · rw [HR.out]; simp only; rw [← setOf_put]; exact hown2
         · rw [HR.out]; intro s hs; rcases List.mem_append.1 hs with h | h
           · exact HS.out.2 s h
           · rw [List.mem_singleton] at h; rw [h]; exact hm
     · cases s
       · have HR := hQ0 (show R = (10, L ++ [nm]) by rw [hR]; simp)
         clear hR
         go_wp2_with fail
         (go_at_call 78; refine (HNM.out).mono ?_; rintro ε w1 ⟨rfl, hb1⟩)
         have hz1 := hb1.size
         obtain ⟨c0, c1, fz, lt, ne, sn⟩ := HCK.out.below hb1 (Nat.le_refl _)
         have HS := hQ0 sn
         have hlk := sn.look nm hm
         rw [← HHD.out] at hlk
         clear sn
         have HS1 := hQ0 (HS.out.block (Below.heap_setCell w1 ⟨cb, 1, none⟩ _ mb (Ne.symm ne)) : SeenAt (w1.setCell ⟨cb, 1, none⟩ (.int .i64 10)) mb n L)
         go_wp2_with (at_mapUpdate; refine wpList_mapUpdate_own _ rfl _ _ _ 69 rfl 9 4 (string_keyed Tryz.underlying9) Tryz.underlying69 _ mb n _ rfl HS1.out.1 hn _ _ (kl nm) rfl rfl (seen_key nm hm) uT [] (plainElem_bool Tryz.underlying4 true) ?_; intro w2 hown2 hg2)
         refine bodyPost_ret (v := .tuple #[]) (by simp only [results, Tryz.results27]; go_simp) rfl ⟨rfl, ?_⟩
         have hst : Below B w (w1.setCell ⟨cb, 1, none⟩ (.int .i64 10)) := by first | exact hb1.mono (by omega) | exact (hb1.mono (by omega)).setCell (by show B ≤ cb; omega) _
         have hsz : (w1.setCell ⟨cb, 1, none⟩ (.int .i64 10)).heap.size = w1.heap.size := by first | rfl | simp
         have hne1 : cb ≠ mb := ne
         have hr := hg2.block cb (by rw [hsz]; exact lt) (fun h => hne1 (Option.some.inj h))
         refine ⟨hst.grown hg2 (by rw [hsz]; omega) (fun k hk => by obtain rfl := Option.some.inj hk; exact hBm), ?_⟩
         · refine ⟨(World.cell?_of_block (a := ⟨cb, 0, none⟩) hr).trans ?_, (World.cell?_of_block (a := ⟨cb, 1, none⟩) hr).trans ?_, fun o => (World.frozen?_of_block (a := ⟨cb, o, none⟩) hr).trans ?_, ?_, ne, ?_, ?_⟩
           · go_simp
           · rw [HR.out]; go_simp
           · go_simp
           · exact Nat.lt_of_lt_of_le lt (by have := hg2.size; omega)
           · rw [HR.out]; simp only; rw [← setOf_put]; exact hown2
           · rw [HR.out]; intro s hs; rcases List.mem_append.1 hs with h | h
             · exact HS.out.2 s h
             · rw [List.mem_singleton] at h; rw [h]; exact hm
       · have HR := hQ0 (show R = (0, L ++ [nm]) by rw [hR]; simp)
         clear hR
         go_wp2_with fail
         (go_at_call 78; refine (HNM.out).mono ?_; rintro ε w1 ⟨rfl, hb1⟩)
         have hz1 := hb1.size
         obtain ⟨c0, c1, fz, lt, ne, sn⟩ := HCK.out.below hb1 (Nat.le_refl _)
         have HS := hQ0 sn
         have hlk := sn.look nm hm
         rw [← HHD.out] at hlk
         clear sn
         have HS1 := HS
         go_wp2_with (at_mapUpdate; refine wpList_mapUpdate_own _ rfl _ _ _ 69 rfl 9 4 (string_keyed Tryz.underlying9) Tryz.underlying69 _ mb n _ rfl HS1.out.1 hn _ _ (kl nm) rfl rfl (seen_key nm hm) uT [] (plainElem_bool Tryz.underlying4 true) ?_; intro w2 hown2 hg2)
         refine bodyPost_ret (v := .tuple #[]) (by simp only [results, Tryz.results27]; go_simp) rfl ⟨rfl, ?_⟩
         have hst : Below B w (w1) := by first | exact hb1.mono (by omega) | exact (hb1.mono (by omega)).setCell (by show B ≤ cb; omega) _
         have hsz : (w1).heap.size = w1.heap.size := by first | rfl | simp
         have hne1 : cb ≠ mb := ne
         have hr := hg2.block cb (by rw [hsz]; exact lt) (fun h => hne1 (Option.some.inj h))
         refine ⟨hst.grown hg2 (by rw [hsz]; omega) (fun k hk => by obtain rfl := Option.some.inj hk; exact hBm), ?_⟩
         · refine ⟨(World.cell?_of_block (a := ⟨cb, 0, none⟩) hr).trans ?_, (World.cell?_of_block (a := ⟨cb, 1, none⟩) hr).trans ?_, fun o => (World.frozen?_of_block (a := ⟨cb, o, none⟩) hr).trans ?_, ?_, ne, ?_, ?_⟩
           · go_simp
           · rw [HR.out]; go_simp
           · go_simp
           · exact Nat.lt_of_lt_of_le lt (by have := hg2.size; omega)
           · rw [HR.out]; simp only; rw [← setOf_put]; exact hown2
           · rw [HR.out]; intro s hs; rcases List.mem_append.1 hs with h | h
             · exact HS.out.2 s h
             · rw [List.mem_singleton] at h; rw [h]; exact hm
   · have HR := hQ0 (show R = (7, L ++ [nm]) by rw [hR]; simp)
     clear hR
     go_wp2_with fail
     (go_at_call 78; refine (HNM.out).mono ?_; rintro ε w1 ⟨rfl, hb1⟩)
     have hz1 := hb1.size
     obtain ⟨c0, c1, fz, lt, ne, sn⟩ := HCK.out.below hb1 (Nat.le_refl _)
     have HS := hQ0 sn
     have hlk := sn.look nm hm
     rw [← HHD.out] at hlk
     clear sn
     have HS1 := hQ0 (HS.out.block (Below.heap_setCell w1 ⟨cb, 1, none⟩ _ mb (Ne.symm ne)) : SeenAt (w1.setCell ⟨cb, 1, none⟩ (.int .i64 7)) mb n L)
     go_wp2_with (at_mapUpdate; refine wpList_mapUpdate_own _ rfl _ _ _ 69 rfl 9 4 (string_keyed Tryz.underlying9) Tryz.underlying69 _ mb n _ rfl HS1.out.1 hn _ _ (kl nm) rfl rfl (seen_key nm hm) uT [] (plainElem_bool Tryz.underlying4 true) ?_; intro w2 hown2 hg2)
     refine bodyPost_ret (v := .tuple #[]) (by simp only [results, Tryz.results27]; go_simp) rfl ⟨rfl, ?_⟩
     have hst : Below B w (w1.setCell ⟨cb, 1, none⟩ (.int .i64 7)) := by first | exact hb1.mono (by omega) | exact (hb1.mono (by omega)).setCell (by show B ≤ cb; omega) _
     have hsz : (w1.setCell ⟨cb, 1, none⟩ (.int .i64 7)).heap.size = w1.heap.size := by first | rfl | simp
     have hne1 : cb ≠ mb := ne
     have hr := hg2.block cb (by rw [hsz]; exact lt) (fun h => hne1 (Option.some.inj h))
     refine ⟨hst.grown hg2 (by rw [hsz]; omega) (fun k hk => by obtain rfl := Option.some.inj hk; exact hBm), ?_⟩
     · refine ⟨(World.cell?_of_block (a := ⟨cb, 0, none⟩) hr).trans ?_, (World.cell?_of_block (a := ⟨cb, 1, none⟩) hr).trans ?_, fun o => (World.frozen?_of_block (a := ⟨cb, o, none⟩) hr).trans ?_, ?_, ne, ?_, ?_⟩
       · go_simp
       · rw [HR.out]; go_simp
       · go_simp
       · exact Nat.lt_of_lt_of_le lt (by have := hg2.size; omega)
       · rw [HR.out]; simp only; rw [← setOf_put]; exact hown2
       · rw [HR.out]; intro s hs; rcases List.mem_append.1 hs with h | h
         · exact HS.out.2 s h
         · rw [List.mem_singleton] at h; rw [h]; exact hm
end Go.Proofs.YtbpcjpiaimdpnaaGreatDoor
namespace Go.Proofs.YtbpcjpiaimdpnaaGreatDoor
open Go Go.RowKit
set_option linter.unusedVariables false
structure BoxAt (w : World) (b : Nat) (cs : List Value) : Prop where
  c : ∀ j u, cs[j]? = some u → w.cell? ⟨b, j, none⟩ = some u
  fz : ∀ o, w.frozen? ⟨b, o, none⟩ = false
  lt : b < w.heap.size
theorem BoxAt.block {w w' : World} {b : Nat} {cs : List Value} (h : BoxAt w b cs) (hs : w.heap.size ≤ w'.heap.size) (hb : w'.heap[b]? = w.heap[b]?) : BoxAt w' b cs :=
 ⟨fun j u hu => (World.cell?_of_block (a := ⟨b, j, none⟩) hb).trans (h.c j u hu), fun o => (World.frozen?_of_block (a := ⟨b, o, none⟩) hb).trans (h.fz o), Nat.lt_of_lt_of_le h.lt hs⟩
theorem BoxAt.below {w w' : World} {b B : Nat} {cs : List Value} (h : BoxAt w b cs) (hb : Below B w w') (hB : b < B) : BoxAt w' b cs := h.block hb.size (hb.block b hB)
theorem BoxAt.alloc {w : World} {b : Nat} {cs : List Value} (h : BoxAt w b cs) (o : Obj) : BoxAt (w.alloc o) b cs := h.block (by simp) (heap_alloc_old w o h.lt)
theorem BoxAt.low {w : World} {b : Nat} {cs : List Value} (h : BoxAt w b cs) {p : Addr} (hp : p.block ≠ b) (u : Value) : BoxAt (w.setCell p u) b cs := h.block (by simp) (Below.heap_setCell _ _ _ _ (by omega))
theorem BoxAt.drew {w : World} {b : Nat} {cs : List Value} (h : BoxAt w b cs) : BoxAt w.drew b cs := ⟨h.c, h.fz, h.lt⟩
theorem BoxAt.new (w : World) (cs : List Value) (e : TypeId) : BoxAt (w.alloc (.cells cs.toArray e)) w.heap.size cs :=
 ⟨fun j u hu => by rw [World.cell?_alloc_new]; simpa using hu, fun o => by go_simp, by simp⟩
theorem within_new1 (n x y : Int) (g : Nat) (w : World) (hg : g = w.heap.size) (h0 : 0 ≤ n) (h1 : n ≤ 1073741824) : Calls Tryz.prog 26 #[.int .i64 n, .slice (some ⟨g, 0, none⟩) 1 1] (w.alloc (.cells #[.int .i64 x, .int .i64 y] 23)) fun e w' => e = .returned (.bool (nearV n ⟨x, y⟩)) ∧ Below (w.heap.size + 1) (w.alloc (.cells #[.int .i64 x, .int .i64 y] 23)) w' := by
 subst hg
 have := within_any n [⟨x, y⟩] (some ⟨w.heap.size, 0, none⟩) 1 _ (vc_new w [⟨x, y⟩]) (by unfold maxLen; simp) h0 h1
 simp only [List.all_cons, List.all_nil, Bool.and_true] at this
 exact this.mono fun e w' h => ⟨h.1, h.2.mono (by simp)⟩
theorem level_new1 (x : Int) (g : Nat) (w : World) (hg : g = w.heap.size) : Calls Tryz.prog 28 #[.slice (some ⟨g, 0, none⟩) 1 1] (w.alloc (.cells #[.int .i64 x] 3)) fun e w' => e = .returned (.bool (in1 0 3 x)) ∧ w.alloc (.cells #[.int .i64 x] 3) = w' := by
 subst hg
 have := level_any [x] (some ⟨w.heap.size, 0, none⟩) 1 _ (is_new w [x]) (by unfold maxLen; simp)
 rw [inL1] at this
 exact this
theorem at_new1 (a b : Int) (g : Nat) (w : World) (hg : g = w.heap.size) : Calls Tryz.prog 29 #[.slice (some ⟨g, 0, none⟩) 1 1] (w.alloc (.cells #[.int .i64 a, .int .i64 b] 23)) fun e w' => e = .returned (.bool (nearV 1048576 ⟨a, b⟩)) ∧ Below (w.heap.size + 1) (w.alloc (.cells #[.int .i64 a, .int .i64 b] 23)) w' := by
 subst hg
 have := at_any [⟨a, b⟩] (some ⟨w.heap.size, 0, none⟩) 1 _ (vc_new w [⟨a, b⟩]) (by unfold maxLen; simp)
 simp only [List.all_cons, List.all_nil, Bool.and_true] at this
 exact this.mono fun e w' h => ⟨h.1, h.2.mono (by simp)⟩
theorem at_new2 (a b c d : Int) (g : Nat) (w : World) (hg : g = w.heap.size) : Calls Tryz.prog 29 #[.slice (some ⟨g, 0, none⟩) 2 2] (w.alloc (.cells #[.int .i64 a, .int .i64 b, .int .i64 c, .int .i64 d] 23)) fun e w' => e = .returned (.bool (nearV 1048576 ⟨a, b⟩ && nearV 1048576 ⟨c, d⟩)) ∧ Below (w.heap.size + 1) (w.alloc (.cells #[.int .i64 a, .int .i64 b, .int .i64 c, .int .i64 d] 23)) w' := by
 subst hg
 have := at_any [⟨a, b⟩, ⟨c, d⟩] (some ⟨w.heap.size, 0, none⟩) 2 _ (vc_new w [⟨a, b⟩, ⟨c, d⟩]) (by unfold maxLen; simp)
 simp only [List.all_cons, List.all_nil, Bool.and_true] at this
 exact this.mono fun e w' h => ⟨h.1, h.2.mono (by simp)⟩
theorem in_new1' (lo hi x : Int) (g : Nat) (w : World) (p : Bool) (hp : p = in1 lo hi x) (hg : g = w.heap.size) : Calls Tryz.prog 25 #[.int .i64 lo, .int .i64 hi, .slice (some ⟨g, 0, none⟩) 1 1] (w.alloc (.cells #[.int .i64 x] 3)) fun e w' => e = .returned (.bool p) ∧ w.alloc (.cells #[.int .i64 x] 3) = w' := hp ▸ in_new1 lo hi x g w hg
theorem in_new2' (lo hi x y : Int) (g : Nat) (w : World) (p : Bool) (hp : p = (in1 lo hi x && in1 lo hi y)) (hg : g = w.heap.size) : Calls Tryz.prog 25 #[.int .i64 lo, .int .i64 hi, .slice (some ⟨g, 0, none⟩) 2 2] (w.alloc (.cells #[.int .i64 x, .int .i64 y] 3)) fun e w' => e = .returned (.bool p) ∧ w.alloc (.cells #[.int .i64 x, .int .i64 y] 3) = w' := hp ▸ in_new2 lo hi x y g w hg
theorem level_new1' (x : Int) (g : Nat) (w : World) (p : Bool) (hp : p = in1 0 3 x) (hg : g = w.heap.size) : Calls Tryz.prog 28 #[.slice (some ⟨g, 0, none⟩) 1 1] (w.alloc (.cells #[.int .i64 x] 3)) fun e w' => e = .returned (.bool p) ∧ w.alloc (.cells #[.int .i64 x] 3) = w' := hp ▸ level_new1 x g w hg
theorem within_new1' (n x y : Int) (g : Nat) (w : World) (p : Bool) (hp : p = nearV n ⟨x, y⟩) (hg : g = w.heap.size) (h0 : 0 ≤ n) (h1 : n ≤ 1073741824) : Calls Tryz.prog 26 #[.int .i64 n, .slice (some ⟨g, 0, none⟩) 1 1] (w.alloc (.cells #[.int .i64 x, .int .i64 y] 23)) fun e w' => e = .returned (.bool p) ∧ Below (w.heap.size + 1) (w.alloc (.cells #[.int .i64 x, .int .i64 y] 23)) w' := hp ▸ within_new1 n x y g w hg h0 h1
theorem at_new1' (a b : Int) (g : Nat) (w : World) (p : Bool) (hp : p = nearV 1048576 ⟨a, b⟩) (hg : g = w.heap.size) : Calls Tryz.prog 29 #[.slice (some ⟨g, 0, none⟩) 1 1] (w.alloc (.cells #[.int .i64 a, .int .i64 b] 23)) fun e w' => e = .returned (.bool p) ∧ Below (w.heap.size + 1) (w.alloc (.cells #[.int .i64 a, .int .i64 b] 23)) w' := hp ▸ at_new1 a b g w hg
theorem at_new2' (a b c d : Int) (g : Nat) (w : World) (p : Bool) (hp : p = (nearV 1048576 ⟨a, b⟩ && nearV 1048576 ⟨c, d⟩)) (hg : g = w.heap.size) : Calls Tryz.prog 29 #[.slice (some ⟨g, 0, none⟩) 2 2] (w.alloc (.cells #[.int .i64 a, .int .i64 b, .int .i64 c, .int .i64 d] 23)) fun e w' => e = .returned (.bool p) ∧ Below (w.heap.size + 1) (w.alloc (.cells #[.int .i64 a, .int .i64 b, .int .i64 c, .int .i64 d] 23)) w' := hp ▸ at_new2 a b c d g w hg
theorem bounce_any' (x y : Int) (w : World) (p : Bool) (hp : p = (in1 0 15 x && in1 0 15 y)) : Calls Tryz.prog 30 #[.int .i64 x, .int .i64 y] w fun e w' => e = .returned (.bool p) ∧ Below w.heap.size w w' := hp ▸ bounce_any x y w
theorem ports_any' (x y : Int) (w : World) (p : Bool) (hp : p = (in1 (-1) 31 x && in1 (-1) 63 y)) : Calls Tryz.prog 31 #[.int .i64 x, .int .i64 y] w fun e w' => e = .returned (.bool p) ∧ Below w.heap.size w w' := hp ▸ ports_any x y w
def LookAny (B cb mb n : Nat) (R : Int × List ByteArray) (w : World) (ε : Ending) (w' : World) : Prop := ε = .returned (.tuple #[]) ∧ Below B w w' ∧ ∃ m, m ≤ n + 1 ∧ CkAt w' cb mb m R.1 R.2
theorem look_any (w : World) (cb mb n B : Nat) (e : Int) (L : List ByteArray) (nm : ByteArray) (f s : Bool) (h : CkAt w cb mb n e L) (hm : nm.size ≤ maxLen) (hn : n < maxLen) (hB : B ≤ cb) (hBm : B ≤ mb) :
  Calls Tryz.prog 27 #[.pointer (some ⟨cb, 0, none⟩), .string nm, .bool f, .bool s] w (LookAny B cb mb n (lookR (e, L) nm f s) w) := by
 by_cases he : e = 0
 · subst he
   refine (look_new w cb mb n B L nm f s h hm hn hB hBm).mono fun ε w' h => ⟨h.1, h.2.1, n + 1, Nat.le_refl _, h.2.2⟩
 · have hR : lookR (e, L) nm f s = (e, L) := by unfold lookR; rw [if_pos he]
   rw [hR]
   refine (look_same w cb mb n B e L nm f s h he).mono fun ε w' h' => ?_
   obtain ⟨h1, rfl⟩ := h'
   exact ⟨h1, Below.refl _ _, n, Nat.le_succ n, h⟩
theorem fold_next {α β : Type} {f : β → α → β} {s : β} {l : List α} {k : Nat} {x : α} (h : l[k]? = some x) : (l.take (k + 1)).foldl f s = f ((l.take k).foldl f s) x := by
 obtain ⟨h1, rfl⟩ := List.getElem?_eq_some_iff.1 h
 rw [List.take_succ_eq_append_getElem h1, List.foldl_append]
 rfl
abbrev CS := Int × List ByteArray
def Wl.fB (x : Wl) : Bool := ((((in1 0 3 x.lv && in1 1 4 x.kd) && (nearV 1048576 ⟨x.a1, x.a2⟩ && nearV 1048576 ⟨x.b1, x.b2⟩)) && (in1 0 15 x.rs && in1 0 15 x.gr)) && (in1 0 16384 x.kk && in1 0 16384 x.mn)) && (in1 (-1) 31 x.cl && in1 (-1) 63 x.sw)
def Wl.sB (x : Wl) : Bool := !(decide (x.a1 = x.b1) && decide (x.a2 = x.b2))
def Wl.look (s : CS) (x : Wl) : CS := lookR s x.nm x.fB x.sB
def rootAux : Nat → Int → Int → Int
  | 0, _, r => r
  | i + 1, n, r => if (r + 2 ^ i) * (r + 2 ^ i) ≤ n then rootAux i n (r + 2 ^ i) else rootAux i n r
def rootR (n : Int) : Int := if n ≤ 0 then 0 else rootAux 32 n 0
def Ac.n1 (x : Ac) : Int := (x.s1 - x.c1) * (x.s1 - x.c1) + (x.s2 - x.c2) * (x.s2 - x.c2)
def Ac.n2 (x : Ac) : Int := (x.e1 - x.c1) * (x.e1 - x.c1) + (x.e2 - x.c2) * (x.e2 - x.c2)
def Ac.tn (x : Ac) : Int := (x.s1 - x.c1) * (x.e2 - x.c2) - (x.s2 - x.c2) * (x.e1 - x.c1)
def roundB (x : Ac) (rad : Int) : Bool := decide (x.n1 = x.n2) && decide (rootR x.n1 * rootR x.n1 = x.n1) && decide (2 * rad < rootR x.n1) && decide (rootR x.n1 ≤ 262144) && decide (0 < x.tn)
def Ac.pB (x : Ac) : Bool := nearV 1048576 ⟨x.c1, x.c2⟩ && (nearV 1048576 ⟨x.s1, x.s2⟩ && nearV 1048576 ⟨x.e1, x.e2⟩)
def Ac.fB (x : Ac) : Bool := (((in1 0 3 x.lv && x.pB) && (in1 0 15 x.rs && in1 0 15 x.gr)) && in1 0 16384 x.mn) && in1 (-1) 63 x.sw
def Ac.look (rad : Int) (s : CS) (x : Ac) : CS := lookR s x.nm x.fB (x.fB && roundB x rad)
def Ps.fB (x : Ps) : Bool := ((((in1 0 3 x.lv && nearV 1048576 ⟨x.c1, x.c2⟩) && in1 0 262144 x.sz) && (in1 0 15 x.rs && in1 0 15 x.gr)) && (in1 0 16384 x.kk && in1 0 16384 x.mn)) && (in1 (-1) 31 x.cl && in1 (-1) 63 x.sw)
def Ps.look (s : CS) (x : Ps) : CS := lookR s x.nm x.fB true
def Fl.gB (x : Fl) : Bool := (((((in1 0 3 x.lv && nearV 1048576 ⟨x.p1, x.p2⟩) && in1 1 262144 x.ln) && (in1 (-256) 256 x.lo && in1 (-256) 256 x.hi)) && decide (x.lo < x.hi)) && (in1 1 64 x.up && (in1 1 64 x.dn && in1 1 64 x.mx))) && decide (x.mx * x.ln ≤ 2097152)
def Fl.fB (x : Fl) : Bool := (x.gB && (in1 0 15 x.rs && in1 0 15 x.gr)) && (in1 (-1) 31 x.cl && in1 (-1) 63 x.sw)
def Fl.look (s : CS) (x : Fl) : CS := lookR s x.nm x.fB true
def Zn.fB (x : Zn) : Bool := ((in1 0 3 x.lv && (nearV 1048576 ⟨x.l1, x.l2⟩ && nearV 1048576 ⟨x.h1, x.h2⟩)) && nearV 256 ⟨x.f1, x.f2⟩) && in1 (-1) 31 x.cl
def Zn.sB (x : Zn) : Bool := decide (x.l1 < x.h1) && decide (x.l2 < x.h2)
def Zn.look (s : CS) (x : Zn) : CS := lookR s x.nm x.fB x.sB
def Sc.fB (x : Sc) : Bool := ((((in1 0 3 x.lv && nearV 1048576 ⟨x.c1, x.c2⟩) && in1 1 262144 x.sz) && in1 0 1048576 x.lm) && nearV 16384 ⟨x.o1, x.o2⟩) && (in1 (-1) 31 x.cl && in1 (-1) 63 x.sw)
def Sc.look (rad : Int) (s : CS) (x : Sc) : CS := lookR s x.nm x.fB (decide (x.sz < rad))
def La.fB (x : La) : Bool := ((in1 0 3 x.lv && nearV 1048576 ⟨x.c1, x.c2⟩) && in1 1 262144 x.sz) && in1 (-1) 63 x.sw
def La.look (s : CS) (x : La) : CS := lookR s x.nm x.fB true
def Ra.fB (x : Ra) : Bool := (((in1 0 3 x.fr && in1 0 3 x.to) && nearV 1048576 ⟨x.c1, x.c2⟩) && in1 1 262144 x.sz) && nearV 16384 ⟨x.d1, x.d2⟩
def Ra.sB (x : Ra) : Bool := (!decide (x.fr = x.to)) && !(decide (x.d1 = 0) && decide (x.d2 = 0))
def Ra.look (s : CS) (x : Ra) : CS := lookR s x.nm x.fB x.sB
def Dr.fB (x : Dr) : Bool := (in1 0 3 x.lv && nearV 1048576 ⟨x.c1, x.c2⟩) && in1 1 262144 x.sz
def Dr.look (s : CS) (x : Dr) : CS := lookR s x.nm x.fB true
def Ln.fB (x : Ln) : Bool := ((in1 0 3 x.lv && nearV 1048576 ⟨x.a1, x.a2⟩) && nearV 16384 ⟨x.v1, x.v2⟩) && in1 0 31 x.cl
def Ln.look (s : CS) (x : Ln) : CS := lookR s x.nm x.fB true
def Tb.fold (t : Tb) : CS :=
  t.lns.foldl Ln.look (t.ds.foldl Dr.look (t.rs.foldl Ra.look (t.las.foldl La.look (t.ss.foldl (Sc.look t.rad) (t.zs.foldl Zn.look (t.fs.foldl Fl.look (t.ps.foldl Ps.look (t.ars.foldl (Ac.look t.rad) (t.ws.foldl Wl.look (0, []))))))))))
def nearR (a b : Vc) (n : Int) : Bool := decide ((a.x - b.x) * (a.x - b.x) + (a.y - b.y) * (a.y - b.y) < n * n)
def overA {α : Type} (f : α → α → Bool) : List α → List α → Bool
  | _, [] => false
  | seen, a :: r => seen.any (f a) || overA f (seen ++ [a]) r
def Sc.ov (a b : Sc) : Bool := decide (a.lv = b.lv) && nearR ⟨a.c1, a.c2⟩ ⟨b.c1, b.c2⟩ (a.sz + b.sz)
def Ra.ov (a b : Ra) : Bool := decide (a.fr = b.fr) && nearR ⟨a.c1, a.c2⟩ ⟨b.c1, b.c2⟩ (a.sz + b.sz)
def Ln.ov (rad : Int) (a b : Ln) : Bool := decide (a.lv = b.lv) && nearR ⟨a.a1, a.a2⟩ ⟨b.a1, b.a2⟩ (2 * rad)
def Tb.over (t : Tb) : Bool := overA Sc.ov [] t.ss || (overA Ra.ov [] t.rs || overA (Ln.ov t.rad) [] t.lns)
def Tb.many (t : Tb) : Bool :=
  decide (64 < (t.ws.length : Int)) || decide (32 < (t.ars.length : Int)) || decide (32 < (t.ps.length : Int)) || decide (4 < (t.fs.length : Int)) || decide (16 < (t.zs.length : Int))
  || (decide (8 < (t.ss.length : Int)) || decide (24 < (t.las.length : Int)) || decide (8 < (t.rs.length : Int)) || decide (4 < (t.ds.length : Int)) || decide (4 < (t.lns.length : Int)))
  || !in1 0 6 t.bal || decide (t.bal < (t.tr.length : Int))
def Tb.headB (t : Tb) : Bool := in1 64 32768 t.rad && in1 0 15 t.rst && nearV 256 ⟨t.gx, t.gy⟩ && in1 0 1000 t.drg && in1 0 14 t.shf && inL (-1) 63 t.tr
def checkR (t : Tb) : Int := if t.many = true then 9 else if t.headB = false then 5 else if t.fold.1 = 0 ∧ t.over = true then 11 else t.fold.1
def blk? (n : Nat) : Code → Option Code
  | .seq a b => match blk? n a with
    | some c => some c
    | none => blk? n b
  | .cond _ a b => match blk? n a with
    | some c => some c
    | none => blk? n b
  | .block k b => if k = n then some (.block k b) else blk? n b
  | .loop b => blk? n b
  | .scope b => blk? n b
  | _ => none
def blkOf (n : Nat) (f : Func) : Code := match f.body with
  | some c => (match blk? n c with
    | some x => x
    | none => .skip)
  | none => .skip
theorem pin_eqT {c : Code} {P : Program} {Q : Exit → Act → World → Prop} {a : Act} {w : World} (h : ∀ w', w' = w → c.wp P Q a w') : c.wp P Q a w := h w rfl
def AtEnd (R : Act → World → Prop) : Exit → Act → World → Prop
  | .normal, a, w => R a w
  | _, _, _ => False
theorem wp_of_end {P : Program} {c : Code} {R : Act → World → Prop} {Q : Exit → Act → World → Prop} {a : Act} {w : World} (h : c.wp P (AtEnd R) a w) (hr : ∀ a' w', R a' w' → Q .normal a' w') : c.wp P Q a w :=
 wp_mono h fun e a' w' he => by
  cases e with
  | normal => exact hr a' w' he
  | exit id => exact he.elim
  | goto l => exact he.elim
  | ret => exact he.elim
  | panic ch => exact he.elim
  | outgrown => exact he.elim
def getL : List Value → Nat → Value
  | [], _ => undef
  | a :: _, 0 => a
  | _ :: l, i + 1 => getL l i
theorem getL_eq : ∀ (l : List Value) (t : Nat), (List.toArray l).getD t undef = getL l t
 | [], t => by simp [getL]
 | a :: l, 0 => rfl
 | a :: l, t + 1 => by
  have := getL_eq l t
  simp only [Array.getD_eq_getD_getElem?, List.getElem?_toArray, List.getElem?_cons_succ] at this ⊢
  exact this
theorem evalL (l : List Value) (d : List Deferred) (t : Nat) : Act.eval ⟨List.toArray l, d⟩ (.tmp t) = getL l t := getL_eq l t
theorem getL0 (a : Value) (l : List Value) : getL (a :: l) 0 = a := rfl
theorem getL1 (a0 : Value) (l : List Value) (i : Nat) : getL (a0 :: l) (i + 1) = getL l i := rfl
theorem getL8 (a0 a1 a2 a3 a4 a5 a6 a7 : Value) (l : List Value) (i : Nat) : getL (a0 :: a1 :: a2 :: a3 :: a4 :: a5 :: a6 :: a7 :: l) (i + 8) = getL l i := Eq.trans (getL1 a0 _ (i + 7)) (Eq.trans (getL1 a1 _ (i + 6)) (Eq.trans (getL1 a2 _ (i + 5)) (Eq.trans (getL1 a3 _ (i + 4)) (Eq.trans (getL1 a4 _ (i + 3)) (Eq.trans (getL1 a5 _ (i + 2)) (Eq.trans (getL1 a6 _ (i + 1)) (getL1 a7 _ (i + 0))))))))
theorem setL8 {α : Type} (a0 a1 a2 a3 a4 a5 a6 a7 v : α) (l : List α) (i : Nat) : (a0 :: a1 :: a2 :: a3 :: a4 :: a5 :: a6 :: a7 :: l).set (i + 8) v = a0 :: a1 :: a2 :: a3 :: a4 :: a5 :: a6 :: a7 :: l.set i v := rfl
theorem getL64 (a0 a1 a2 a3 a4 a5 a6 a7 a8 a9 a10 a11 a12 a13 a14 a15 a16 a17 a18 a19 a20 a21 a22 a23 a24 a25 a26 a27 a28 a29 a30 a31 a32 a33 a34 a35 a36 a37 a38 a39 a40 a41 a42 a43 a44 a45 a46 a47 a48 a49 a50 a51 a52 a53 a54 a55 a56 a57 a58 a59 a60 a61 a62 a63 : Value) (l : List Value) (i : Nat) : getL (a0 :: a1 :: a2 :: a3 :: a4 :: a5 :: a6 :: a7 :: a8 :: a9 :: a10 :: a11 :: a12 :: a13 :: a14 :: a15 :: a16 :: a17 :: a18 :: a19 :: a20 :: a21 :: a22 :: a23 :: a24 :: a25 :: a26 :: a27 :: a28 :: a29 :: a30 :: a31 :: a32 :: a33 :: a34 :: a35 :: a36 :: a37 :: a38 :: a39 :: a40 :: a41 :: a42 :: a43 :: a44 :: a45 :: a46 :: a47 :: a48 :: a49 :: a50 :: a51 :: a52 :: a53 :: a54 :: a55 :: a56 :: a57 :: a58 :: a59 :: a60 :: a61 :: a62 :: a63 :: l) (i + 64) = getL l i := Eq.trans (getL8 a0 a1 a2 a3 a4 a5 a6 a7 _ (i + 56)) (Eq.trans (getL8 a8 a9 a10 a11 a12 a13 a14 a15 _ (i + 48)) (Eq.trans (getL8 a16 a17 a18 a19 a20 a21 a22 a23 _ (i + 40)) (Eq.trans (getL8 a24 a25 a26 a27 a28 a29 a30 a31 _ (i + 32)) (Eq.trans (getL8 a32 a33 a34 a35 a36 a37 a38 a39 _ (i + 24)) (Eq.trans (getL8 a40 a41 a42 a43 a44 a45 a46 a47 _ (i + 16)) (Eq.trans (getL8 a48 a49 a50 a51 a52 a53 a54 a55 _ (i + 8)) (getL8 a56 a57 a58 a59 a60 a61 a62 a63 _ (i + 0))))))))
theorem setL64 {α : Type} (a0 a1 a2 a3 a4 a5 a6 a7 a8 a9 a10 a11 a12 a13 a14 a15 a16 a17 a18 a19 a20 a21 a22 a23 a24 a25 a26 a27 a28 a29 a30 a31 a32 a33 a34 a35 a36 a37 a38 a39 a40 a41 a42 a43 a44 a45 a46 a47 a48 a49 a50 a51 a52 a53 a54 a55 a56 a57 a58 a59 a60 a61 a62 a63 v : α) (l : List α) (i : Nat) : (a0 :: a1 :: a2 :: a3 :: a4 :: a5 :: a6 :: a7 :: a8 :: a9 :: a10 :: a11 :: a12 :: a13 :: a14 :: a15 :: a16 :: a17 :: a18 :: a19 :: a20 :: a21 :: a22 :: a23 :: a24 :: a25 :: a26 :: a27 :: a28 :: a29 :: a30 :: a31 :: a32 :: a33 :: a34 :: a35 :: a36 :: a37 :: a38 :: a39 :: a40 :: a41 :: a42 :: a43 :: a44 :: a45 :: a46 :: a47 :: a48 :: a49 :: a50 :: a51 :: a52 :: a53 :: a54 :: a55 :: a56 :: a57 :: a58 :: a59 :: a60 :: a61 :: a62 :: a63 :: l).set (i + 64) v = a0 :: a1 :: a2 :: a3 :: a4 :: a5 :: a6 :: a7 :: a8 :: a9 :: a10 :: a11 :: a12 :: a13 :: a14 :: a15 :: a16 :: a17 :: a18 :: a19 :: a20 :: a21 :: a22 :: a23 :: a24 :: a25 :: a26 :: a27 :: a28 :: a29 :: a30 :: a31 :: a32 :: a33 :: a34 :: a35 :: a36 :: a37 :: a38 :: a39 :: a40 :: a41 :: a42 :: a43 :: a44 :: a45 :: a46 :: a47 :: a48 :: a49 :: a50 :: a51 :: a52 :: a53 :: a54 :: a55 :: a56 :: a57 :: a58 :: a59 :: a60 :: a61 :: a62 :: a63 :: l.set i v := rfl
def pw : Nat → Int
  | 0 => 0
  | i + 1 => 2 ^ i
def AOk (A : Option Addr) : Prop := A = none ∨ ∃ b o, A = some ⟨b, o, none⟩
structure TbA.ok (a : TbA) : Prop where
  tr : AOk a.tr
  ws : AOk a.ws
  ars : AOk a.ars
  ps : AOk a.ps
  fs : AOk a.fs
  zs : AOk a.zs
  ss : AOk a.ss
  las : AOk a.las
  rs : AOk a.rs
  ds : AOk a.ds
  lns : AOk a.lns
structure TbCap (t : Tb) (a : TbA) : Prop where
  ss : t.ss.length ≤ a.ssc
  rs : t.rs.length ≤ a.rsc
  lns : t.lns.length ≤ a.lnsc
  ok : a.ok
def OvOk (t : Tb) : Prop := (∀ x ∈ t.ss, nearV 1048576 ⟨x.c1, x.c2⟩ = true ∧ 0 ≤ x.sz ∧ x.sz ≤ 262144) ∧ (∀ x ∈ t.rs, nearV 1048576 ⟨x.c1, x.c2⟩ = true ∧ 0 ≤ x.sz ∧ x.sz ≤ 262144) ∧ (∀ x ∈ t.lns, nearV 1048576 ⟨x.a1, x.a2⟩ = true) ∧ 0 ≤ t.rad ∧ t.rad ≤ 32768
set_option maxRecDepth 100000 in
set_option maxHeartbeats 8000000 in
theorem overlaps_any (t : Tb) (a : TbA) (w : World) (hA : TbAt w t a) (hk : TbCap t a) (ho : OvOk t) (hl : t.ss.length ≤ 0 ∧ t.rs.length ≤ 0 ∧ t.lns.length ≤ 0) :
  Calls Tryz.prog 33 #[t.v a] w fun e w' => e = .returned (.bool t.over) ∧ Below w.heap.size w w' := by
 have HA := hQ0 hA
 have HO := hQ0 ho
 have HK := hQ0 hk
 clear hA ho hk
 obtain ⟨rad, bal, rst, gx, gy, drg, shf, tr, ws, ars, ps, fs, zs, ss, las, rs, ds, lns⟩ := t
 obtain ⟨Atr, ctr, Aws, cws, Aars, cars, Aps, cps, Afs, cfs, Azs, czs, Ass, css, Alas, clas, Ars, crs, Ads, cds, Alns, clns⟩ := a
 simp only at hl
 obtain ⟨hl1, hl2, hl3⟩ := hl
 obtain rfl : ss = [] := List.eq_nil_of_length_eq_zero (by omega)
 obtain rfl : rs = [] := List.eq_nil_of_length_eq_zero (by omega)
 obtain rfl : lns = [] := List.eq_nil_of_length_eq_zero (by omega)
 have hov : Tb.over ⟨rad, bal, rst, gx, gy, drg, shf, tr, ws, ars, ps, fs, zs, [], las, [], ds, []⟩ = false := rfl
 rw [hov]
 clear hl1 hl2 hl3 hov
 unfold Tb.v
 simp only
 obtain ⟨TC, hTC⟩ : ∃ z : List Value, z = [.int .i64 rad, .int .i64 bal, .int .i64 rst, .int .i64 gx, .int .i64 gy, .int .i64 drg, .int .i64 shf, .slice Atr tr.length ctr, .slice Aws ws.length cws, .slice Aars ars.length cars, .slice Aps ps.length cps, .slice Afs fs.length cfs, .slice Azs zs.length czs, .slice Ass 0 css, .slice Alas las.length clas, .slice Ars 0 crs, .slice Ads ds.length cds, .slice Alns 0 clns] := ⟨_, rfl⟩
 have HTC := hQ0 hTC
 clear hTC
 go_enter Tryz.func33, Tryz.ntmps33; (try simp only [List.append_eq, List.cons_append, List.nil_append])
 go_upto_region 1 with (fail)
 (refine pin_eqT (fun w1 hE_w1 => ?_))
 have hT : BoxAt w1 w.heap.size TC := by rw [hE_w1, HTC.out]; exact BoxAt.new _ _ _
 have hb : Below w.heap.size w w1 := by rw [hE_w1]; ((with_reducible (repeat (first | exact bR _ _ | apply bS | apply bA | apply bD | refine bT ?_ (by assumption) ?_ | refine bO (by assumption) ?_ ?_))) <;> (first | omega | (simp <;> omega)))
 clear hE_w1
 have ta := hT.c 13 (.slice Ass 0 css) (by rw [HTC.out]; rfl)
 have hlt_ := hT.lt
 go_wp2_with fail
 go_loopg [18] 1 (fun gk tt wr => tt = .int .i64 0 ∧ Below w.heap.size w wr ∧ BoxAt wr w.heap.size TC)
 case atStart => exact ⟨rfl, hb, hT⟩
 case round =>
  clear hb hT ta hlt_
  obtain ⟨rfl, hb, hT⟩ := hrel
  have ta := hT.c 15 (.slice Ars 0 crs) (by rw [HTC.out]; rfl)
  have hlt_ := hT.lt
  go_wp2_with fail
  go_loopg [54] 1 (fun gk tt wr => tt = .int .i64 0 ∧ Below w.heap.size w wr ∧ BoxAt wr w.heap.size TC)
  case atStart => exact ⟨rfl, hb, hT⟩
  case round =>
   clear hb hT ta hlt_
   obtain ⟨rfl, hb, hT⟩ := hrel
   have ta := hT.c 17 (.slice Alns 0 clns) (by rw [HTC.out]; rfl)
   have hlt_ := hT.lt
   go_wp2_with fail
   go_loopg [90] 1 (fun gk tt wr => tt = .int .i64 0 ∧ Below w.heap.size w wr ∧ BoxAt wr w.heap.size TC)
   case atStart => exact ⟨rfl, hb, hT⟩
   case round =>
    clear hb hT ta hlt_
    obtain ⟨rfl, hb, hT⟩ := hrel
    go_wp2_with fail
    go_ret
    exact ⟨rfl, hb⟩
theorem range_tb {b : Nat} {cs : List Value} {W : World} (h : BoxAt W b cs) : W.rangeAt b 0 cs := fun j v hj => by rw [Nat.zero_add]; exact h.c j v hj
theorem load_at_tb (b : Nat) (t : Tb) (a : TbA) (W : World) (h : BoxAt W b (t.cells a)) :
  (Instr.loadAt 36 (.pointer (some ⟨b, 0, none⟩))).run Tryz.prog W = .ok (t.v a) W :=
 run_loadAt_mid W b 0 36 (t.cells a) _ (range_tb h) Tryz.underlying36 rfl (by kernel_rfl)
theorem loadv_tb (b : Nat) (t : Tb) (a : TbA) (W : World) (h : BoxAt W b (t.cells a)) :
  (loadVar 36 ⟨b, 0, none⟩).run Tryz.prog W = .ok (t.v a) W :=
 run_loadVar_mid W b 0 36 (t.cells a) _ (range_tb h) Tryz.underlying36 rfl (by kernel_rfl)
theorem load_tb (ev : Operand → Value) (o : Oper) (s : Nat) (ho : o.op = .load 36 (.tmp s)) (b : Nat) (hv : ev (.tmp s) = .pointer (some ⟨b, 0, none⟩)) (t : Tb) (a : TbA) (W : World) (h : BoxAt W b (t.cells a)) :
  (execOp ev o).run Tryz.prog W = .ok (.value (t.v a)) W := by
 unfold execOp
 rw [ho]
 simp only [hv, Sem.run_bind, load_at_tb b t a W h, Result.andThen_ok, Sem.run_map, Sem.run_pure]
theorem store_at_tb (b : Nat) (cs : List Value) (t : Tb) (a : TbA) (W : World) (h : BoxAt W b cs) (hl : cs.length = 18) :
  (Instr.storeAt 36 (.pointer (some ⟨b, 0, none⟩)) (t.v a)).run Tryz.prog W = .ok () (W.setCells b 0 (t.cells a)) :=
 run_storeAt_mid W b 0 36 (t.cells a).toArray (fun j hj => ⟨(range_tb h).isSome j (by rw [hl]; simpa [Tb.cells] using hj), h.fz _⟩) (by kernel_rfl) (all_oneCell_toArray (fun v hv => by
  simp only [Tb.cells, List.mem_cons, List.not_mem_nil, or_false] at hv
  rcases hv with rfl | rfl | rfl | rfl | rfl | rfl | rfl | rfl | rfl | rfl | rfl | rfl | rfl | rfl | rfl | rfl | rfl | rfl <;> rfl))
theorem size_setCells (b : Nat) : ∀ (vs : List Value) (o : Nat) (w : World), (w.setCells b o vs).heap.size = w.heap.size
 | [], _, _ => rfl
 | v :: r, o, w => by rw [World.setCells, size_setCells b r]; simp
theorem stored_tb (b : Nat) (cs : List Value) (t : Tb) (a : TbA) (W : World) (h : BoxAt W b cs) (hl : cs.length = 18) : BoxAt (W.setCells b 0 (t.cells a)) b (t.cells a) :=
 ⟨fun j v hj => by
  have := World.rangeAt_setCells_same W b 0 (t.cells a) (fun j hj => ⟨(range_tb h).isSome j (by rw [hl]; simpa [Tb.cells] using hj), h.fz _⟩) j v hj
  rwa [Nat.zero_add] at this, fun o => by rw [World.frozen?_setCells]; exact h.fz o, by rw [size_setCells]; exact h.lt⟩
theorem below_setCells {B b : Nat} (hb : B ≤ b) : ∀ (vs : List Value) (o : Nat) {a w : World}, Below B a w → Below B a (w.setCells b o vs)
 | [], _, _, _, h => h
 | v :: r, o, a, w, h => by rw [World.setCells]; exact below_setCells hb r (o + 1) (h.setCell hb v)
theorem heap_setCells {b k : Nat} (hk : k ≠ b) : ∀ (vs : List Value) (o : Nat) (w : World), (w.setCells b o vs).heap[k]? = w.heap[k]?
 | [], _, _ => rfl
 | v :: r, o, w => by rw [World.setCells, heap_setCells hk r]; exact Below.heap_setCell _ _ _ _ hk
theorem BoxAt.low_cells {W : World} {b q o : Nat} {cs vs : List Value} (h : BoxAt W b cs) (hn : b ≠ q) : BoxAt (W.setCells q o vs) b cs := h.block (by rw [size_setCells]; exact Nat.le_refl _) (heap_setCells hn vs o W)
theorem wpList_store_tb {ops : Array Oper} {rest : List Oper} {o : Oper} {A : Act} {w : World} {Q : Exit → Act → World → Prop} (hgd : o.guard = none) (x y : Operand) (ho : o.op = .store 36 x y) (b : Nat) (cs : List Value) (hx : A.eval x = .pointer (some ⟨b, 0, none⟩)) (t : Tb) (a : TbA) (hy : A.eval y = t.v a) (h : BoxAt w b cs) (hl : cs.length = 18)
  (hk : wpList Tryz.prog ops Q rest (A.put o.dst undef) (w.setCells b 0 (t.cells a))) : wpList Tryz.prog ops Q (o :: rest) A w := by
 refine wpList_plain hgd fun K hK => ?_
 unfold Oper.wp execOp
 simp only [ho, hx, hy, Sem.run_bind, store_at_tb b cs t a w h hl, Result.andThen_ok, Sem.run_map, Sem.run_pure]
 exact hK _ _ hk
theorem upon_store_tb {o : Oper} {A : Act} {w : World} {N : Act → World → Prop} {Q : Exit → Act → World → Prop} (x y : Operand) (ho : o.op = .store 36 x y) (b : Nat) (cs : List Value) (hx : A.eval x = .pointer (some ⟨b, 0, none⟩)) (t : Tb) (a : TbA) (hy : A.eval y = t.v a) (h : BoxAt w b cs) (hl : cs.length = 18)
  (hk : N (A.put o.dst undef) (w.setCells b 0 (t.cells a))) : Oper.upon Tryz.prog o A N Q ((execOp A.eval o).run Tryz.prog w) := by
 unfold execOp
 simp only [ho, hx, hy, Sem.run_bind, store_at_tb b cs t a w h hl, Result.andThen_ok, Sem.run_map, Sem.run_pure]
 exact hk
theorem map_getD (L : List Value) (n : Nat) (h : L.length = n) : L = (List.range n).map fun i => L.getD i undef := by
 subst h
 refine List.ext_getElem (by simp) fun i h1 h2 => ?_
 simp [List.getD_eq_getElem?_getD, h1]
set_option maxRecDepth 100000 in
def fr623 (s : Nat → Value) : List Value := s 0 :: s 1 :: s 2 :: s 3 :: s 4 :: s 5 :: s 6 :: s 7 :: s 8 :: s 9 :: s 10 :: s 11 :: s 12 :: s 13 :: s 14 :: s 15 :: s 16 :: s 17 :: s 18 :: s 19 :: s 20 :: s 21 :: s 22 :: s 23 :: s 24 :: s 25 :: s 26 :: s 27 :: s 28 :: s 29 :: s 30 :: s 31 :: s 32 :: s 33 :: s 34 :: s 35 :: s 36 :: s 37 :: s 38 :: s 39 :: s 40 :: s 41 :: s 42 :: s 43 :: s 44 :: s 45 :: s 46 :: s 47 :: s 48 :: s 49 :: s 50 :: s 51 :: s 52 :: s 53 :: s 54 :: s 55 :: s 56 :: s 57 :: s 58 :: s 59 :: s 60 :: s 61 :: s 62 :: s 63 :: s 64 :: s 65 :: s 66 :: s 67 :: s 68 :: s 69 :: s 70 :: s 71 :: s 72 :: s 73 :: s 74 :: s 75 :: s 76 :: s 77 :: s 78 :: s 79 :: s 80 :: s 81 :: s 82 :: s 83 :: s 84 :: s 85 :: s 86 :: s 87 :: s 88 :: s 89 :: s 90 :: s 91 :: s 92 :: s 93 :: s 94 :: s 95 :: s 96 :: s 97 :: s 98 :: s 99 :: s 100 :: s 101 :: s 102 :: s 103 :: s 104 :: s 105 :: s 106 :: s 107 :: s 108 :: s 109 :: s 110 :: s 111 :: s 112 :: s 113 :: s 114 :: s 115 :: s 116 :: s 117 :: s 118 :: s 119 :: s 120 :: s 121 :: s 122 :: s 123 :: s 124 :: s 125 :: s 126 :: s 127 :: s 128 :: s 129 :: s 130 :: s 131 :: s 132 :: s 133 :: s 134 :: s 135 :: s 136 :: s 137 :: s 138 :: s 139 :: s 140 :: s 141 :: s 142 :: s 143 :: s 144 :: s 145 :: s 146 :: s 147 :: s 148 :: s 149 :: s 150 :: s 151 :: s 152 :: s 153 :: s 154 :: s 155 :: s 156 :: s 157 :: s 158 :: s 159 :: s 160 :: s 161 :: s 162 :: s 163 :: s 164 :: s 165 :: s 166 :: s 167 :: s 168 :: s 169 :: s 170 :: s 171 :: s 172 :: s 173 :: s 174 :: s 175 :: s 176 :: s 177 :: s 178 :: s 179 :: s 180 :: s 181 :: s 182 :: s 183 :: s 184 :: s 185 :: s 186 :: s 187 :: s 188 :: s 189 :: s 190 :: s 191 :: s 192 :: s 193 :: s 194 :: s 195 :: s 196 :: s 197 :: s 198 :: s 199 :: s 200 :: s 201 :: s 202 :: s 203 :: s 204 :: s 205 :: s 206 :: s 207 :: s 208 :: s 209 :: s 210 :: s 211 :: s 212 :: s 213 :: s 214 :: s 215 :: s 216 :: s 217 :: s 218 :: s 219 :: s 220 :: s 221 :: s 222 :: s 223 :: s 224 :: s 225 :: s 226 :: s 227 :: s 228 :: s 229 :: s 230 :: s 231 :: s 232 :: s 233 :: s 234 :: s 235 :: s 236 :: s 237 :: s 238 :: s 239 :: s 240 :: s 241 :: s 242 :: s 243 :: s 244 :: s 245 :: s 246 :: s 247 :: s 248 :: s 249 :: s 250 :: s 251 :: s 252 :: s 253 :: s 254 :: s 255 :: s 256 :: s 257 :: s 258 :: s 259 :: s 260 :: s 261 :: s 262 :: s 263 :: s 264 :: s 265 :: s 266 :: s 267 :: s 268 :: s 269 :: s 270 :: s 271 :: s 272 :: s 273 :: s 274 :: s 275 :: s 276 :: s 277 :: s 278 :: s 279 :: s 280 :: s 281 :: s 282 :: s 283 :: s 284 :: s 285 :: s 286 :: s 287 :: s 288 :: s 289 :: s 290 :: s 291 :: s 292 :: s 293 :: s 294 :: s 295 :: s 296 :: s 297 :: s 298 :: s 299 :: s 300 :: s 301 :: s 302 :: s 303 :: s 304 :: s 305 :: s 306 :: s 307 :: s 308 :: s 309 :: s 310 :: s 311 :: s 312 :: s 313 :: s 314 :: s 315 :: s 316 :: s 317 :: s 318 :: s 319 :: s 320 :: s 321 :: s 322 :: s 323 :: s 324 :: s 325 :: s 326 :: s 327 :: s 328 :: s 329 :: s 330 :: s 331 :: s 332 :: s 333 :: s 334 :: s 335 :: s 336 :: s 337 :: s 338 :: s 339 :: s 340 :: s 341 :: s 342 :: s 343 :: s 344 :: s 345 :: s 346 :: s 347 :: s 348 :: s 349 :: s 350 :: s 351 :: s 352 :: s 353 :: s 354 :: s 355 :: s 356 :: s 357 :: s 358 :: s 359 :: s 360 :: s 361 :: s 362 :: s 363 :: s 364 :: s 365 :: s 366 :: s 367 :: s 368 :: s 369 :: s 370 :: s 371 :: s 372 :: s 373 :: s 374 :: s 375 :: s 376 :: s 377 :: s 378 :: s 379 :: s 380 :: s 381 :: s 382 :: s 383 :: s 384 :: s 385 :: s 386 :: s 387 :: s 388 :: s 389 :: s 390 :: s 391 :: s 392 :: s 393 :: s 394 :: s 395 :: s 396 :: s 397 :: s 398 :: s 399 :: s 400 :: s 401 :: s 402 :: s 403 :: s 404 :: s 405 :: s 406 :: s 407 :: s 408 :: s 409 :: s 410 :: s 411 :: s 412 :: s 413 :: s 414 :: s 415 :: s 416 :: s 417 :: s 418 :: s 419 :: s 420 :: s 421 :: s 422 :: s 423 :: s 424 :: s 425 :: s 426 :: s 427 :: s 428 :: s 429 :: s 430 :: s 431 :: s 432 :: s 433 :: s 434 :: s 435 :: s 436 :: s 437 :: s 438 :: s 439 :: s 440 :: s 441 :: s 442 :: s 443 :: s 444 :: s 445 :: s 446 :: s 447 :: s 448 :: s 449 :: s 450 :: s 451 :: s 452 :: s 453 :: s 454 :: s 455 :: s 456 :: s 457 :: s 458 :: s 459 :: s 460 :: s 461 :: s 462 :: s 463 :: s 464 :: s 465 :: s 466 :: s 467 :: s 468 :: s 469 :: s 470 :: s 471 :: s 472 :: s 473 :: s 474 :: s 475 :: s 476 :: s 477 :: s 478 :: s 479 :: s 480 :: s 481 :: s 482 :: s 483 :: s 484 :: s 485 :: s 486 :: s 487 :: s 488 :: s 489 :: s 490 :: s 491 :: s 492 :: s 493 :: s 494 :: s 495 :: s 496 :: s 497 :: s 498 :: s 499 :: s 500 :: s 501 :: s 502 :: s 503 :: s 504 :: s 505 :: s 506 :: s 507 :: s 508 :: s 509 :: s 510 :: s 511 :: s 512 :: s 513 :: s 514 :: s 515 :: s 516 :: s 517 :: s 518 :: s 519 :: s 520 :: s 521 :: s 522 :: s 523 :: s 524 :: s 525 :: s 526 :: s 527 :: s 528 :: s 529 :: s 530 :: s 531 :: s 532 :: s 533 :: s 534 :: s 535 :: s 536 :: s 537 :: s 538 :: s 539 :: s 540 :: s 541 :: s 542 :: s 543 :: s 544 :: s 545 :: s 546 :: s 547 :: s 548 :: s 549 :: s 550 :: s 551 :: s 552 :: s 553 :: s 554 :: s 555 :: s 556 :: s 557 :: s 558 :: s 559 :: s 560 :: s 561 :: s 562 :: s 563 :: s 564 :: s 565 :: s 566 :: s 567 :: s 568 :: s 569 :: s 570 :: s 571 :: s 572 :: s 573 :: s 574 :: s 575 :: s 576 :: s 577 :: s 578 :: s 579 :: s 580 :: s 581 :: s 582 :: s 583 :: s 584 :: s 585 :: s 586 :: s 587 :: s 588 :: s 589 :: s 590 :: s 591 :: s 592 :: s 593 :: s 594 :: s 595 :: s 596 :: s 597 :: s 598 :: s 599 :: s 600 :: s 601 :: s 602 :: s 603 :: s 604 :: s 605 :: s 606 :: s 607 :: s 608 :: s 609 :: s 610 :: s 611 :: s 612 :: s 613 :: s 614 :: s 615 :: s 616 :: s 617 :: s 618 :: s 619 :: s 620 :: s 621 :: s 622 :: []
set_option maxRecDepth 100000 in
theorem fr623_ex (L : List Value) (h : L.length = 623) : ∃ s : Nat → Value, L = fr623 s := ⟨fun i => L.getD i undef, (map_getD L 623 h).trans (by kernel_rfl)⟩
section
variable {P : Program} {ops : Array Oper} {md : Region.Mode} {S : World → Prop} {Q : Exit → Act → World → Prop}
def readyB (md : Region.Mode) (ops : Array Oper) (listed : Array Bool) (i : Nat) : Bool :=
  decide (i < ops.size) && (!listed.getD i true && ((ops[i]?).map (·.after.all fun e => !Region.binds md e || listed.getD e.on false)).getD false)
theorem readyB_spec {listed : Array Bool} {i : Nat} (h : readyB md ops listed i = true) : i ∈ Region.ready md ops listed := by
 unfold readyB at h
 rw [Bool.and_eq_true, decide_eq_true_eq] at h
 unfold Region.ready
 rw [List.mem_filter, List.mem_range]
 exact h
def stepBN (md : Region.Mode) (ops : Array Oper) (n : List Nat) (i : Nat) (listed : Array Bool) : Bool := (!n.contains i) && readyB md ops listed i && Region.free md ops listed i
theorem wpN_maybe {i f : Nat} {n : List Nat} {o : Oper} {L : Act → World → Prop} {listed : Array Bool} {a : Act} {w : World} (hT : Hid (tailBJ md ops n = true)) (hD : Hid (DC md ops listed)) (hi : ops[i]? = some o) (hB : stepBN md ops n i listed = true) (b : Bool) (hg : Region.wanted o (yielded ops a.tmps) = b) (v : Value)
  (hQ : ∀ c a w, Q (.panic c) (a.put o.dst (opt b v)) w → Q (.panic c) a w) (hS : S w)
  (h : b = true → ∀ w, S w → (execOp a.eval o).run P w = .ok (.value v) w) (hk : Hid (DC md ops (listed.setIfInBounds i true)) → ∀ K : Act → World → Prop, (∀ a w, wpZ P md ops S Q n L f (listed.setIfInBounds i true) a w → K a w) → K (a.put o.dst (opt b v)) w) : wpZ P md ops S Q n L (f + 1) listed a w := by
 simp only [stepBN, Bool.and_eq_true, Bool.not_eq_true'] at hB
 obtain ⟨⟨h2, h3⟩, h4⟩ := hB
 have h3 := readyB_spec h3
 refine wpZ_first (v := opt b v) hT.out h2 hi hQ f listed a w hD.out (Region.free_spec hi h4) h3 ?_ hS (hk (hQ0 (hD.out.set h3)) _ fun _ _ h => h)
 cases b with
 | true => exact .inl ⟨hg, h rfl⟩
 | false => exact .inr ⟨hg, rfl⟩
theorem wpN_freshm {i f : Nat} {n : List Nat} {o : Oper} {L : Act → World → Prop} {listed : Array Bool} {a : Act} {w : World} (hD : Hid (DC md ops listed)) (hi : ops[i]? = some o) (hB : decide (Region.ready md ops listed = [i]) = true) (b : Bool) (hg : Region.wanted o (yielded ops a.tmps) = b) (v : Value) (ob : Obj)
  (h : b = true → (execOp a.eval o).run P w = .ok (.value v) (w.alloc ob)) (hS : S w) (hS' : S (w.alloc ob))
  (hk : Hid (DC md ops (listed.setIfInBounds i true)) → ∀ K : Act → World → Prop, (∀ a w, wpZ P md ops S Q n L f (listed.setIfInBounds i true) a w → K a w) → ∀ w', S w' → (b = true → w' = w.alloc ob) → K (a.put o.dst (opt b v)) w') : wpZ P md ops S Q n L (f + 1) listed a w := by
 refine wpZ_freshm hi hB b hg v ob h hS hS' (hk (hQ0 (hD.out.set ?_)))
 rw [decide_eq_true_eq] at hB
 rw [hB]
 simp
theorem wpN_callm {i f : Nat} {n : List Nat} {o : Oper} {L : Act → World → Prop} {listed : Array Bool} {a : Act} {w : World} (hD : Hid (DC md ops listed)) (hi : ops[i]? = some o) (hB : decide (Region.ready md ops listed = [i]) = true) (b : Bool) (hg : Region.wanted o (yielded ops a.tmps) = b) (v : Value)
  (h : b = true → ∀ N : Act → World → Prop, (∀ w', S w' → N (a.put o.dst v) w') → Oper.upon P o a N Q ((execOp a.eval o).run P w)) (hS : S w)
  (hk : Hid (DC md ops (listed.setIfInBounds i true)) → ∀ K : Act → World → Prop, (∀ a w, wpZ P md ops S Q n L f (listed.setIfInBounds i true) a w → K a w) → ∀ w', S w' → K (a.put o.dst (opt b v)) w') : wpZ P md ops S Q n L (f + 1) listed a w := by
 refine wpZ_callm hi hB b hg v h hS (hk (hQ0 (hD.out.set ?_)))
 rw [decide_eq_true_eq] at hB
 rw [hB]
 simp
def hopB (md : Region.Mode) (ops : Array Oper) (m i : Nat) : Bool := match ops[m]? with
  | some o => o.after.any fun e => Region.binds md e && e.on == i
  | none => false
theorem waits_hop {m i : Nat} (hm : hopB md ops m i = true) : ∀ (f t : Nat), waitsJ md ops f t m = true → waitsJ md ops (f + 1) t i = true
 | 0, t, h => by simp [waitsJ] at h
 | f + 1, t, h => by
  unfold waitsJ at h ⊢
  cases ho : ops[t]? with
  | none => rw [ho] at h; simp at h
  | some o =>
   rw [ho] at h
   simp only [Bool.or_eq_true] at h ⊢
   right
   rcases h with h | h
   · obtain ⟨e, he, hb⟩ := Array.any_eq_true'.1 h
     simp only [Bool.and_eq_true, beq_iff_eq] at hb
     refine Array.any_eq_true'.2 ⟨e, he, ?_⟩
     simp only [Bool.and_eq_true]
     refine ⟨hb.1, ?_⟩
     rw [hb.2]
     unfold hopB at hm
     unfold waitsJ
     cases ho2 : ops[m]? with
     | none => rw [ho2] at hm; simp at hm
     | some o2 => rw [ho2] at hm; simp only [Bool.or_eq_true]; left; exact hm
   · obtain ⟨e, he, hb⟩ := Array.any_eq_true'.1 h
     simp only [Bool.and_eq_true] at hb
     exact Array.any_eq_true'.2 ⟨e, he, by simp only [Bool.and_eq_true]; exact ⟨hb.1, waits_hop hm f e.on hb.2⟩⟩
theorem waits_more : ∀ (f t i : Nat), waitsJ md ops f t i = true → waitsJ md ops (f + 1) t i = true
 | 0, t, i, h => by simp [waitsJ] at h
 | f + 1, t, i, h => by
  unfold waitsJ at h ⊢
  cases ho : ops[t]? with
  | none => rw [ho] at h; simp at h
  | some o =>
   rw [ho] at h
   simp only [Bool.or_eq_true] at h ⊢
   rcases h with h | h
   · exact .inl h
   · right
     obtain ⟨e, he, hb⟩ := Array.any_eq_true'.1 h
     simp only [Bool.and_eq_true] at hb
     exact Array.any_eq_true'.2 ⟨e, he, by simp only [Bool.and_eq_true]; exact ⟨hb.1, waits_more f e.on i hb.2⟩⟩
theorem waits_le {f g t i : Nat} (h : waitsJ md ops f t i = true) (hg : f ≤ g) : waitsJ md ops g t i = true := by
 induction hg with
 | refl => exact h
 | step _ ih => exact waits_more _ _ _ ih
def chainB (md : Region.Mode) (ops : Array Oper) (t : Nat) (nx : List Nat) : Bool :=
  (List.range ops.size).all fun i => i == t || (hopB md ops (nx.getD i 0) i && decide (i < nx.getD i 0) && decide (nx.getD i 0 ≤ t))
theorem chain_waits {t : Nat} {nx : List Nat} (ht : t < ops.size) (h : chainB md ops t nx = true) : ∀ (d i : Nat), t - i ≤ d → i < ops.size → i ≠ t → waitsJ md ops (t - i) t i = true
 | 0, i, hd, hi, hne => by
  simp only [chainB, List.all_eq_true, List.mem_range] at h
  have h1 := h i hi
  simp only [Bool.or_eq_true, beq_iff_eq, hne, false_or, Bool.and_eq_true, decide_eq_true_eq] at h1
  omega
 | d + 1, i, hd, hi, hne => by
  have h0 := h
  simp only [chainB, List.all_eq_true, List.mem_range] at h
  have h1 := h i hi
  simp only [Bool.or_eq_true, beq_iff_eq, hne, false_or, Bool.and_eq_true, decide_eq_true_eq] at h1
  obtain ⟨⟨h1, h2⟩, h3⟩ := h1
  by_cases hm : nx.getD i 0 = t
  · rw [hm] at h1
    refine waits_le (f := 1) ?_ (by omega)
    unfold hopB at h1
    unfold waitsJ
    cases ho : ops[t]? with
    | none => rw [ho] at h1; simp at h1
    | some o => rw [ho] at h1; simp only [Bool.or_eq_true]; exact .inl h1
  · have ih := chain_waits ht h0 d (nx.getD i 0) (by omega) (by omega) hm
    exact waits_le (waits_hop h1 _ _ ih) (by omega)
theorem tailBJ_of {t : Nat} {nx : List Nat} (h : (Region.noSelect ops && (decide (t < ops.size) && chainB md ops t nx)) = true) : tailBJ md ops [t] = true := by
 simp only [Bool.and_eq_true, decide_eq_true_eq] at h
 obtain ⟨hn, ht, hc⟩ := h
 unfold tailBJ
 rw [hn, Bool.true_and]
 simp only [List.all_eq_true, List.mem_range]
 intro u hu
 by_cases hut : u = t
 · subst hut
   simp only [List.contains_cons, beq_self_eq_true, Bool.true_or, Bool.not_true, Bool.false_or]
   cases ho : ops[u]? with
   | none => rfl
   | some o =>
    simp only [List.all_eq_true, List.mem_range, Bool.or_eq_true]
    intro i hi
    by_cases hiu : i = u
    · left; simp [hiu]
    · right; exact waits_le (chain_waits ht hc _ i (Nat.le_refl _) hi hiu) (by omega)
 · simp [hut]
theorem wp_region_N {id : Nat} {a : Act} {w : World} {l : List Oper} (S : World → Prop) (m : Nat) (n : List Nat) (hm : P.follows .mixedOrders = true) (hn : (decide (m + n.length = l.length) && n.all (fun j => decide (j < l.length))) = true) (hT : tailBJ .any l.toArray n = true) (hD : dcB .any l.toArray (Array.replicate l.length false) = true)
  (h : Hid (tailBJ .any l.toArray n = true) → Hid (DC .any l.toArray (Array.replicate l.length false)) → wpZ P .any l.toArray S Q n (fun a' w' => wpList P l.toArray Q (n.filterMap (fun i => l[i]?)) a' w') m (Array.replicate l.length false) a w.drew) : (Code.region id l.toArray true).wp P Q a w :=
 wp_region_Z S m n hm hn (h (hQ0 hT) (hQ0 (dcB_spec hD)))
end
theorem wpN_one {P : Program} {ops : Array Oper} {md : Region.Mode} {S : World → Prop} {Q : Exit → Act → World → Prop} {i f : Nat} {n : List Nat} {o : Oper} {L : Act → World → Prop} {listed : Array Bool} {a : Act} {w : World} (hD : Hid (DC md ops listed)) (hi : ops[i]? = some o) (hB : decide (Region.ready md ops listed = [i]) = true) (hg : o.guard = none)
  (hk : Hid (DC md ops (listed.setIfInBounds i true)) → ∀ K : Act → World → Prop, (∀ a w, wpZ P md ops S Q n L f (listed.setIfInBounds i true) a w → K a w) → Oper.upon P o a (fun a' w' => S w' ∧ K a' w') Q ((execOp a.eval o).run P w)) : wpZ P md ops S Q n L (f + 1) listed a w := by
 refine wpZ_one hi hB hg (hk (hQ0 (hD.out.set ?_)))
 rw [decide_eq_true_eq] at hB
 rw [hB]
 simp
theorem wpN_onew {P : Program} {ops : Array Oper} {md : Region.Mode} {S : World → Prop} {Q : Exit → Act → World → Prop} {i f : Nat} {n : List Nat} {o : Oper} {L : Act → World → Prop} {listed : Array Bool} {a : Act} {w : World} (hD : Hid (DC md ops listed)) (hi : ops[i]? = some o) (hB : decide (Region.ready md ops listed = [i]) = true) (hg : Region.wanted o (yielded ops a.tmps) = true)
  (hk : Hid (DC md ops (listed.setIfInBounds i true)) → ∀ K : Act → World → Prop, (∀ a w, wpZ P md ops S Q n L f (listed.setIfInBounds i true) a w → K a w) → Oper.upon P o a (fun a' w' => S w' ∧ K a' w') Q ((execOp a.eval o).run P w)) : wpZ P md ops S Q n L (f + 1) listed a w := by
 have hB2 := hB
 rw [decide_eq_true_eq] at hB
 have hk := hk (hQ0 (hD.out.set (by rw [hB]; simp))) _ fun _ _ h => h
 refine ⟨fun h0 => (by rw [h0] at hB; cases hB), fun j hj => ?_⟩
 rw [hB] at hj
 obtain rfl : j = i := by simpa using hj
 unfold wpOp
 simp only [hi]
 rw [if_pos hg]
 exact .inl hk
section
variable {P : Program} {ops : Array Oper} {md : Region.Mode} {S : World → Prop} {Q : Exit → Act → World → Prop} {i f : Nat} {n : List Nat} {o : Oper} {L : Act → World → Prop} {listed : Array Bool} {a : Act} {w : World}
end
attribute [local go_sem ↓] evalL getL64 setL64
attribute [local go_sem ↓] getL8 setL8
attribute [local go_sem ↓] getL1 getL0
set_option maxRecDepth 100000 in
set_option maxHeartbeats 8000000 in
theorem lp_ws (w wr : World) (A : Option Addr) (c cb mb n0 N : Nat) (e0 : Int) (L0 : List ByteArray) (l : List Wl) (TC : List Value) (df : List Deferred) (F : List Value) (hF : F.length = 623) (f3 : F[3]? = some (.pointer (some ⟨cb, 0, none⟩))) (f128 : F[128]? = some (.slice A l.length c)) (f129 : F[129]? = some (.int .i64 (l.length : Int))) (f130 : F[130]? = some (.int .i64 0))
  (hA : RowsAt 13 Wl.cells w A l) (hl : l.length ≤ 64) (hnm : ∀ x ∈ l, x.nm.size ≤ maxLen) (hb : Below w.heap.size w wr) (hT : BoxAt wr w.heap.size TC) (hC : CkAt wr cb mb n0 e0 L0) (hn : n0 + l.length ≤ N) (hN : N ≤ 1000) (hcb : w.heap.size < cb) (hmb : w.heap.size < mb) (R : Act → World → Prop)
  (hR : ∀ (F' : List Value) (w' : World) (n : Nat), F'.length = 623 → F'[1]? = F[1]? → F'[2]? = F[2]? → F'[3]? = F[3]? → Below w.heap.size w w' → BoxAt w' w.heap.size TC → n ≤ n0 + l.length → CkAt w' cb mb n (l.foldl Wl.look (e0, L0)).1 (l.foldl Wl.look (e0, L0)).2 → R ⟨F'.toArray, df⟩ w') :
  (blkOf 1 Tryz.f11).wp Tryz.prog (AtEnd R) ⟨F.toArray, df⟩ wr := by
 obtain ⟨s, rfl⟩ := fr623_ex F hF
 have e3 : s 3 = .pointer (some ⟨cb, 0, none⟩) := Option.some.inj f3
 have e128 : s 128 = .slice A l.length c := Option.some.inj f128
 have e129 : s 129 = .int .i64 (l.length : Int) := Option.some.inj f129
 have e130 : s 130 = .int .i64 0 := Option.some.inj f130
 unfold fr623
 rw [e3, e128, e129, e130]
 have HF3 := hQ0 f3
 clear hF e3 f3 e128 f128 e129 f129 e130 f130
 have HA := hQ0 hA
 have HR := hQ0 hR
 have HN := hQ0 hnm
 have HN2 := hQ0 hN
 have HN3 := hQ0 hn
 clear hA hnm hN hn hR
 conv in (blkOf _ _) => whnf
 go_wp2_with fail
 go_loopg [130] (l.length + 1) (fun gk tt wr => ∃ (k n : Nat) (e : Int) (L : List ByteArray), k ≤ l.length ∧ l.length - k < gk ∧ tt = .int .i64 k ∧ n ≤ n0 + k ∧ Below w.heap.size w wr ∧ BoxAt wr w.heap.size TC ∧ CkAt wr cb mb n e L ∧ Hid ((e, L) = ((l.take k).foldl Wl.look (e0, L0))))
 case atStart => exact ⟨0, n0, e0, L0, by omega, by omega, rfl, by omega, hb, hT, hC, hQ0 rfl⟩
 case round =>
  obtain ⟨ws_, rfl⟩ : ∃ z, z = wr := ⟨_, rfl⟩
  clear hb hT hC
  obtain ⟨k, n, e, L, hk, hkk, rfl, hnk, hb_ws, hTr, hCr, HJ⟩ := hrel
  have hz_ws := hb_ws.size
  by_cases hlt : k < l.length
  · obtain ⟨x, hx⟩ : ∃ x, l[k]? = some x := ⟨l[k], by simp⟩
    obtain ⟨g, o, rfl, hg, c0, c1, c2, c3, c4, c5, c6, c7, c8, c9, c10, c11, c12⟩ := Wl.get (HA.out.below hb_ws (Nat.le_refl _)) hx
    have i1 : (k : Int) < (l.length : Int) := by omega
    have HX := hQ0 hx
    have HBe := hQ0 hb_ws
    have HTr := hQ0 hTr
    have HCr := hQ0 hCr
    clear hx hb_ws hTr hCr
    go_upto_region 17 with (fail)
    (refine pin_eqT (fun w3 hE_w3 => ?_))
    obtain ⟨gb, hgb⟩ : ∃ z, z = ws_.heap.size := ⟨_, rfl⟩
    rw [← hgb]
    have hX3 : BoxAt w3 gb x.cells := by rw [hE_w3, hgb]; exact BoxAt.new _ _ _
    have hT3 : BoxAt w3 w.heap.size TC := by rw [hE_w3]; exact HTr.out.alloc _
    have hC3 : CkAt w3 cb mb n e L := by rw [hE_w3]; exact HCr.out.below ((Below.refl _ _).alloc (Nat.le_refl _) _) (Nat.le_refl _)
    have hB3 : Below w.heap.size w w3 := by rw [hE_w3]; exact HBe.out.alloc hz_ws _
    have HGB := hQ0 hgb
    clear hgb hE_w3 c0 c1 c2 c3 c4 c5 c6 c7 c8 c9 c10 c11 c12
    have hg3 := hX3.lt
    have HT3 := hQ0 hT3
    have HC3 := hQ0 hC3
    have HB3 := hQ0 hB3
    clear hT3 hC3 hB3 hg
    obtain ⟨p1, hp1⟩ : ∃ b, b = (in1 0 3 x.lv) := ⟨_, rfl⟩
    have HHp1 := hQ0 hp1
    clear hp1
    obtain ⟨p2, hp2⟩ : ∃ b, b = (in1 1 4 x.kd) := ⟨_, rfl⟩
    have HHp2 := hQ0 hp2
    clear hp2
    obtain ⟨p3, hp3⟩ : ∃ b, b = (nearV 1048576 ⟨x.a1, x.a2⟩ && nearV 1048576 ⟨x.b1, x.b2⟩) := ⟨_, rfl⟩
    have HHp3 := hQ0 hp3
    clear hp3
    obtain ⟨p4, hp4⟩ : ∃ b, b = (in1 0 15 x.rs && in1 0 15 x.gr) := ⟨_, rfl⟩
    have HHp4 := hQ0 hp4
    clear hp4
    obtain ⟨p5, hp5⟩ : ∃ b, b = (in1 0 16384 x.kk && in1 0 16384 x.mn) := ⟨_, rfl⟩
    have HHp5 := hQ0 hp5
    clear hp5
    obtain ⟨p6, hp6⟩ : ∃ b, b = (in1 (-1) 31 x.cl && in1 (-1) 63 x.sw) := ⟨_, rfl⟩
    have HHp6 := hQ0 hp6
    clear hp6
    obtain ⟨b0, hb0⟩ : ∃ b, b = (x.sB) := ⟨_, rfl⟩
    have HHb0 := hQ0 hb0
    clear hb0
    as_aux_lemma =>
     have hS_ : Below w3.heap.size w3 w3.drew := (Below.refl _ _).drew
     refine wp_region_N (Below w3.heap.size w3) 48 [48] (by kernel_rfl) (by kernel_rfl) (tailBJ_of (nx := [48, 2, 48, 4, 5, 6, 7, 8, 9, 10, 11, 12, 13, 14, 15, 18, 17, 18, 19, 20, 21, 22, 23, 26, 25, 26, 27, 28, 29, 30, 33, 32, 33, 34, 35, 36, 37, 38, 41, 40, 41, 42, 48, 44, 47, 46, 47, 48, 0]) (by kernel_rfl)) (by kernel_rfl) ?_
     intro hT_ hD_
     generalize w3.drew = wd_ at hS_ ⊢
     apply wpN_maybe (i := 0) hT_ hD_ rfl (by kernel_rfl) true (by exact rfl)
     (case h => intro _; intro W_ hW_; have hcW_ := (bcellW hW_).1; go_simp; first | done | exact rfl); (case hQ => exact fun _ _ _ h => h); (case hS => exact hS_)
     intro hD2_; clear hD_; have hD_ := hD2_; clear hD2_; intro K hK; (try simp only [opt_true]); go_simp; refine hK _ _ ?_; clear hK K
     apply wpN_maybe (i := 1) hT_ hD_ rfl (by kernel_rfl) true (by exact rfl)
     (case h => intro _; intro W_ hW_; have hcW_ := (bcellW hW_).1; go_simp; first | done | exact rfl); (case hQ => exact fun _ _ _ h => h); (case hS => exact hS_)
     intro hD2_; clear hD_; have hD_ := hD2_; clear hD2_; intro K hK; (try simp only [opt_true]); go_simp; refine hK _ _ ?_; clear hK K
     apply wpN_maybe (i := 2) hT_ hD_ rfl (by kernel_rfl) true (by exact rfl)
     (case h => intro _; intro W_ hW_; have hY_ := (hX3).below hW_ (hg3); have y0_ := hY_.c 0 (.string x.nm) (rfl); go_simp; first | done | exact rfl); (case hQ => exact fun _ _ _ h => h); (case hS => exact hS_)
     intro hD2_; clear hD_; have hD_ := hD2_; clear hD2_; intro K hK; (try simp only [opt_true]); go_simp; refine hK _ _ ?_; clear hK K
     apply wpN_maybe (i := 3) hT_ hD_ rfl (by kernel_rfl) true (by exact rfl)
     (case h => intro _; intro W_ hW_; have hcW_ := (bcellW hW_).1; go_simp; first | done | exact rfl); (case hQ => exact fun _ _ _ h => h); (case hS => exact hS_)
     intro hD2_; clear hD_; have hD_ := hD2_; clear hD2_; intro K hK; (try simp only [opt_true]); go_simp; refine hK _ _ ?_; clear hK K
     apply wpN_maybe (i := 4) hT_ hD_ rfl (by kernel_rfl) true (by exact rfl)
     (case h => intro _; intro W_ hW_; have hY_ := (hX3).below hW_ (hg3); have y0_ := hY_.c 2 (.int .i64 x.lv) (rfl); go_simp; first | done | exact rfl); (case hQ => exact fun _ _ _ h => h); (case hS => exact hS_)
     intro hD2_; clear hD_; have hD_ := hD2_; clear hD2_; intro K hK; (try simp only [opt_true]); go_simp; refine hK _ _ ?_; clear hK K
     apply wpN_maybe (i := 43) hT_ hD_ rfl (by kernel_rfl) true (by exact rfl)
     (case h => intro _; intro W_ hW_; have hcW_ := (bcellW hW_).1; go_simp; first | done | exact rfl); (case hQ => exact fun _ _ _ h => h); (case hS => exact hS_)
     intro hD2_; clear hD_; have hD_ := hD2_; clear hD2_; intro K hK; (try simp only [opt_true]); go_simp; refine hK _ _ ?_; clear hK K
     apply wpN_maybe (i := 44) hT_ hD_ rfl (by kernel_rfl) true (by exact rfl)
     (case h => intro _; intro W_ hW_; have hY_ := (hX3).below hW_ (hg3); have y0_ := hY_.c 3 (.int .i64 x.a1) (rfl); have y1_ := hY_.c 4 (.int .i64 x.a2) (rfl); go_simp; first | done | exact rfl); (case hQ => exact fun _ _ _ h => h); (case hS => exact hS_)
     intro hD2_; clear hD_; have hD_ := hD2_; clear hD2_; intro K hK; (try simp only [opt_true]); go_simp; refine hK _ _ ?_; clear hK K
     apply wpN_maybe (i := 45) hT_ hD_ rfl (by kernel_rfl) true (by exact rfl)
     (case h => intro _; intro W_ hW_; have hcW_ := (bcellW hW_).1; go_simp; first | done | exact rfl); (case hQ => exact fun _ _ _ h => h); (case hS => exact hS_)
     intro hD2_; clear hD_; have hD_ := hD2_; clear hD2_; intro K hK; (try simp only [opt_true]); go_simp; refine hK _ _ ?_; clear hK K
     apply wpN_maybe (i := 46) hT_ hD_ rfl (by kernel_rfl) true (by exact rfl)
     (case h => intro _; intro W_ hW_; have hY_ := (hX3).below hW_ (hg3); have y0_ := hY_.c 5 (.int .i64 x.b1) (rfl); have y1_ := hY_.c 6 (.int .i64 x.b2) (rfl); go_simp; first | done | exact rfl); (case hQ => exact fun _ _ _ h => h); (case hS => exact hS_)
     intro hD2_; clear hD_; have hD_ := hD2_; clear hD2_; intro K hK; (try simp only [opt_true]); go_simp; refine hK _ _ ?_; clear hK K
     apply wpN_maybe (i := 47) hT_ hD_ rfl (by kernel_rfl) true (by exact rfl) (.bool b0)
     (case h => intro _; intro W_ hW_; have hcW_ := (bcellW hW_).1; go_simp; rw [HHb0.out]; first | done | exact rfl | (unfold Wl.sB; by_cases q1_ : x.a1 = x.b1 <;> by_cases q2_ : x.a2 = x.b2 <;> simp [q1_, q2_])); (case hQ => exact fun _ _ _ h => h); (case hS => exact hS_)
     intro hD2_; clear hD_; have hD_ := hD2_; clear hD2_; intro K hK; (try simp only [opt_true]); go_simp; refine hK _ _ ?_; clear hK K
     apply wpN_freshm (S := Below w3.heap.size w3) (i := 5) hD_ rfl (by kernel_rfl) true (by exact rfl)
     (case h => intro _; generalize hev_ : Act.eval _ = ev_; (have v138_ := (congrFun hev_.symm (.tmp 138)).trans (evalL _ _ 138); simp only [getL64, getL8, getL1, getL0, opt_true, Bool.not_false] at v138_); have vc_ : ∀ v_, ev_ (.const v_) = v_ := (fun _ => by rw [← hev_]; rfl); clear hev_; go_simp; first | done | exact rfl | exact ⟨rfl, rfl⟩); (case hS => exact hS_); (case hS' => exact (hS_).alloc (hS_).size _)
     intro hD2_; clear hD_; have hD_ := hD2_; clear hD2_; intro K hK w_ hS2_ hw0_; have hw_ := hQ0 hw0_; clear hw0_; go_simp; refine hK _ _ ?_; clear hK K hS_; have hS_ := hS2_; clear hS2_
     refine wpN_callm (S := Below w3.heap.size w3) (i := 6) hD_ rfl (by kernel_rfl) true (by exact rfl) (.bool p1) ?_ hS_ ?_
     · intro _; intro N_ hN_; generalize hA_ : Act.mk _ _ = A_ at hN_ ⊢; (have v139_ := (congrArg (fun z_ : Act => z_.eval (.tmp 139)) hA_.symm).trans (evalL _ _ 139); simp only [getL64, getL8, getL1, getL0, opt_true, Bool.not_false] at v139_); clear hA_; have vc_ : ∀ v_, Act.eval A_ (.const v_) = v_ := (fun _ => rfl); have vf_ : ∀ f_, Act.eval A_ (.func f_) = .func (.func f_) #[] #[] := (fun _ => rfl); generalize Act.eval A_ = ev_ at vc_ vf_ v139_ ⊢; obtain rfl := hw_.out rfl; go_simp; go_at_call 28; refine (level_new1' x.lv _ _ p1 HHp1.out (by simp)).mono ?_; rintro e w9 ⟨rfl, rfl⟩; exact hN_ _ hS_
     intro hD2_; clear hD_; have hD_ := hD2_; clear hD2_; intro K hK w_ hS2_; go_simp; refine hK _ _ ?_; clear hK K hS_; have hS_ := hS2_; clear hS2_
     apply wpN_maybe (i := 7) hT_ hD_ rfl (by kernel_rfl) true (by exact rfl)
     (case h => intro _; intro W_ hW_; have hcW_ := (bcellW hW_).1; go_simp; first | done | exact rfl); (case hQ => exact fun _ _ _ h => h); (case hS => exact hS_)
     intro hD2_; clear hD_; have hD_ := hD2_; clear hD2_; intro K hK; (try simp only [opt_true]); go_simp; refine hK _ _ ?_; clear hK K
     apply wpN_maybe (i := 8) hT_ hD_ rfl (by kernel_rfl) p1 (by clear hS_; cases p1 <;> rfl)
     (case h => intro hc_; obtain rfl : p1 = true := hc_; (try simp only [opt_true]); intro W_ hW_; have hcW_ := (bcellW hW_).1; go_simp; first | done | exact rfl); (case hQ => exact fun _ _ _ h => h); (case hS => exact hS_)
     intro hD2_; clear hD_; have hD_ := hD2_; clear hD2_; intro K hK; (try simp only [opt_true]); go_simp; refine hK _ _ ?_; clear hK K
     apply wpN_maybe (i := 9) hT_ hD_ rfl (by kernel_rfl) p1 (by clear hS_; cases p1 <;> rfl)
     (case h => intro hc_; obtain rfl : p1 = true := hc_; (try simp only [opt_true]); intro W_ hW_; have hY_ := (hX3).below hW_ (hg3); have y0_ := hY_.c 1 (.int .i64 x.kd) (rfl); go_simp; first | done | exact rfl); (case hQ => exact fun _ _ _ h => h); (case hS => exact hS_)
     intro hD2_; clear hD_; have hD_ := hD2_; clear hD2_; intro K hK; (try simp only [opt_true]); go_simp; refine hK _ _ ?_; clear hK K
     apply wpN_freshm (S := Below w3.heap.size w3) (i := 10) hD_ rfl (by kernel_rfl) p1 (by clear hS_; cases p1 <;> rfl)
     (case h => intro hc_; obtain rfl : p1 = true := hc_; generalize hev_ : Act.eval _ = ev_; (have v143_ := (congrFun hev_.symm (.tmp 143)).trans (evalL _ _ 143); simp only [getL64, getL8, getL1, getL0, opt_true, Bool.not_false] at v143_); have vc_ : ∀ v_, ev_ (.const v_) = v_ := (fun _ => by rw [← hev_]; rfl); clear hev_; go_simp; first | done | exact rfl | exact ⟨rfl, rfl⟩); (case hS => exact hS_); (case hS' => exact (hS_).alloc (hS_).size _)
     intro hD2_; clear hD_; have hD_ := hD2_; clear hD2_; intro K hK w_ hS2_ hw0_; have hw_ := hQ0 hw0_; clear hw0_; go_simp; refine hK _ _ ?_; clear hK K hS_; have hS_ := hS2_; clear hS2_
     refine wpN_callm (S := Below w3.heap.size w3) (i := 11) hD_ rfl (by kernel_rfl) p1 (by clear hS_; cases p1 <;> rfl) (.bool p2) ?_ hS_ ?_
     · intro hc_; obtain rfl : p1 = true := hc_; intro N_ hN_; generalize hA_ : Act.mk _ _ = A_ at hN_ ⊢; (have v144_ := (congrArg (fun z_ : Act => z_.eval (.tmp 144)) hA_.symm).trans (evalL _ _ 144); simp only [getL64, getL8, getL1, getL0, opt_true, Bool.not_false] at v144_); clear hA_; have vc_ : ∀ v_, Act.eval A_ (.const v_) = v_ := (fun _ => rfl); have vf_ : ∀ f_, Act.eval A_ (.func f_) = .func (.func f_) #[] #[] := (fun _ => rfl); generalize Act.eval A_ = ev_ at vc_ vf_ v144_ ⊢; obtain rfl := hw_.out rfl; go_simp; go_at_call 25; refine (in_new1' 1 4 x.kd _ _ p2 HHp2.out (by simp)).mono ?_; rintro e w9 ⟨rfl, rfl⟩; exact hN_ _ hS_
     intro hD2_; clear hD_; have hD_ := hD2_; clear hD2_; intro K hK w_ hS2_; go_simp; refine hK _ _ ?_; clear hK K hS_; have hS_ := hS2_; clear hS2_
     obtain ⟨d17_1, hd17_1⟩ : ∃ b_, b_ = (p1 && p2) := ⟨_, rfl⟩
     apply wpN_maybe (i := 12) hT_ hD_ rfl (by kernel_rfl) true (by exact rfl) (.bool d17_1) (fun _ _ _ h => h) hS_ (by intro _ W_ hW_; rw [hd17_1]; cases p1 <;> (go_simp; try exact rfl))
     have Hd17_1 := hQ0 hd17_1; clear hd17_1
     intro hD2_; clear hD_; have hD_ := hD2_; clear hD2_; intro K hK; (try simp only [opt_true]); go_simp; refine hK _ _ ?_; clear hK K
     apply wpN_maybe (i := 13) hT_ hD_ rfl (by kernel_rfl) true (by exact rfl)
     (case h => intro _; intro W_ hW_; have hcW_ := (bcellW hW_).1; go_simp; first | done | exact rfl); (case hQ => exact fun _ _ _ h => h); (case hS => exact hS_)
     intro hD2_; clear hD_; have hD_ := hD2_; clear hD2_; intro K hK; (try simp only [opt_true]); go_simp; refine hK _ _ ?_; clear hK K
     apply wpN_maybe (i := 14) hT_ hD_ rfl (by kernel_rfl) d17_1 (by clear hS_; cases d17_1 <;> rfl)
     (case h => intro hc_; obtain rfl : d17_1 = true := hc_; (try simp only [opt_true]); intro W_ hW_; have hcW_ := (bcellW hW_).1; go_simp; first | done | exact rfl); (case hQ => exact fun _ _ _ h => h); (case hS => exact hS_)
     intro hD2_; clear hD_; have hD_ := hD2_; clear hD2_; intro K hK; (try simp only [opt_true]); go_simp; refine hK _ _ ?_; clear hK K
     as_aux_lemma =>
      apply wpN_maybe (i := 15) hT_ hD_ rfl (by kernel_rfl) d17_1 (by clear hS_; cases d17_1 <;> rfl)
      (case h => intro hc_; obtain rfl : d17_1 = true := hc_; (try simp only [opt_true]); intro W_ hW_; have hY_ := (hX3).below hW_ (hg3); have y0_ := hY_.c 3 (.int .i64 x.a1) (rfl); have y1_ := hY_.c 4 (.int .i64 x.a2) (rfl); go_simp; first | done | exact rfl); (case hQ => exact fun _ _ _ h => h); (case hS => exact hS_)
      intro hD2_; clear hD_; have hD_ := hD2_; clear hD2_; intro K hK; (try simp only [opt_true]); go_simp; refine hK _ _ ?_; clear hK K
      apply wpN_maybe (i := 16) hT_ hD_ rfl (by kernel_rfl) d17_1 (by clear hS_; cases d17_1 <;> rfl)
      (case h => intro hc_; obtain rfl : d17_1 = true := hc_; (try simp only [opt_true]); intro W_ hW_; have hcW_ := (bcellW hW_).1; go_simp; first | done | exact rfl); (case hQ => exact fun _ _ _ h => h); (case hS => exact hS_)
      intro hD2_; clear hD_; have hD_ := hD2_; clear hD2_; intro K hK; (try simp only [opt_true]); go_simp; refine hK _ _ ?_; clear hK K
      apply wpN_maybe (i := 17) hT_ hD_ rfl (by kernel_rfl) d17_1 (by clear hS_; cases d17_1 <;> rfl)
      (case h => intro hc_; obtain rfl : d17_1 = true := hc_; (try simp only [opt_true]); intro W_ hW_; have hY_ := (hX3).below hW_ (hg3); have y0_ := hY_.c 5 (.int .i64 x.b1) (rfl); have y1_ := hY_.c 6 (.int .i64 x.b2) (rfl); go_simp; first | done | exact rfl); (case hQ => exact fun _ _ _ h => h); (case hS => exact hS_)
      intro hD2_; clear hD_; have hD_ := hD2_; clear hD2_; intro K hK; (try simp only [opt_true]); go_simp; refine hK _ _ ?_; clear hK K
      apply wpN_freshm (S := Below w3.heap.size w3) (i := 18) hD_ rfl (by kernel_rfl) d17_1 (by clear hS_; cases d17_1 <;> rfl)
      (case h => intro hc_; obtain rfl : d17_1 = true := hc_; generalize hev_ : Act.eval _ = ev_; (have v149_ := (congrFun hev_.symm (.tmp 149)).trans (evalL _ _ 149); simp only [getL64, getL8, getL1, getL0, opt_true, Bool.not_false] at v149_); (have v151_ := (congrFun hev_.symm (.tmp 151)).trans (evalL _ _ 151); simp only [getL64, getL8, getL1, getL0, opt_true, Bool.not_false] at v151_); have vc_ : ∀ v_, ev_ (.const v_) = v_ := (fun _ => by rw [← hev_]; rfl); clear hev_; go_simp; first | done | exact rfl | exact ⟨rfl, rfl⟩); (case hS => exact hS_); (case hS' => exact (hS_).alloc (hS_).size _)
      intro hD2_; clear hD_; have hD_ := hD2_; clear hD2_; intro K hK w_ hS2_ hw0_; have hw_ := hQ0 hw0_; clear hw0_; go_simp; refine hK _ _ ?_; clear hK K hS_; have hS_ := hS2_; clear hS2_
      refine wpN_callm (S := Below w3.heap.size w3) (i := 19) hD_ rfl (by kernel_rfl) d17_1 (by clear hS_; cases d17_1 <;> rfl) (.bool p3) ?_ hS_ ?_
      · intro hc_; obtain rfl : d17_1 = true := hc_; intro N_ hN_; generalize hA_ : Act.mk _ _ = A_ at hN_ ⊢; (have v152_ := (congrArg (fun z_ : Act => z_.eval (.tmp 152)) hA_.symm).trans (evalL _ _ 152); simp only [getL64, getL8, getL1, getL0, opt_true, Bool.not_false] at v152_); clear hA_; have vc_ : ∀ v_, Act.eval A_ (.const v_) = v_ := (fun _ => rfl); have vf_ : ∀ f_, Act.eval A_ (.func f_) = .func (.func f_) #[] #[] := (fun _ => rfl); generalize Act.eval A_ = ev_ at vc_ vf_ v152_ ⊢; obtain rfl := hw_.out rfl; go_simp; go_at_call 29; refine (at_new2' x.a1 x.a2 x.b1 x.b2 _ _ p3 HHp3.out (by simp)).mono ?_; rintro e w9 ⟨rfl, hb9⟩; exact hN_ _ (hS_.trans (hb9.mono (by have := hS_.size; simp at this; omega)))
      intro hD2_; clear hD_; have hD_ := hD2_; clear hD2_; intro K hK w_ hS2_; go_simp; refine hK _ _ ?_; clear hK K hS_; have hS_ := hS2_; clear hS2_
      obtain ⟨d17_2, hd17_2⟩ : ∃ b_, b_ = (d17_1 && p3) := ⟨_, rfl⟩
      apply wpN_maybe (i := 20) hT_ hD_ rfl (by kernel_rfl) true (by exact rfl) (.bool d17_2) (fun _ _ _ h => h) hS_ (by intro _ W_ hW_; rw [hd17_2]; cases d17_1 <;> (go_simp; try exact rfl))
      have Hd17_2 := hQ0 hd17_2; clear hd17_2
      intro hD2_; clear hD_; have hD_ := hD2_; clear hD2_; intro K hK; (try simp only [opt_true]); go_simp; refine hK _ _ ?_; clear hK K
      apply wpN_maybe (i := 21) hT_ hD_ rfl (by kernel_rfl) true (by exact rfl)
      (case h => intro _; intro W_ hW_; have hcW_ := (bcellW hW_).1; go_simp; first | done | exact rfl); (case hQ => exact fun _ _ _ h => h); (case hS => exact hS_)
      intro hD2_; clear hD_; have hD_ := hD2_; clear hD2_; intro K hK; (try simp only [opt_true]); go_simp; refine hK _ _ ?_; clear hK K
      apply wpN_maybe (i := 22) hT_ hD_ rfl (by kernel_rfl) d17_2 (by clear hS_; cases d17_2 <;> rfl)
      (case h => intro hc_; obtain rfl : d17_2 = true := hc_; (try simp only [opt_true]); intro W_ hW_; have hcW_ := (bcellW hW_).1; go_simp; first | done | exact rfl); (case hQ => exact fun _ _ _ h => h); (case hS => exact hS_)
      intro hD2_; clear hD_; have hD_ := hD2_; clear hD2_; intro K hK; (try simp only [opt_true]); go_simp; refine hK _ _ ?_; clear hK K
      apply wpN_maybe (i := 23) hT_ hD_ rfl (by kernel_rfl) d17_2 (by clear hS_; cases d17_2 <;> rfl)
      (case h => intro hc_; obtain rfl : d17_2 = true := hc_; (try simp only [opt_true]); intro W_ hW_; have hY_ := (hX3).below hW_ (hg3); have y0_ := hY_.c 7 (.int .i64 x.rs) (rfl); go_simp; first | done | exact rfl); (case hQ => exact fun _ _ _ h => h); (case hS => exact hS_)
      intro hD2_; clear hD_; have hD_ := hD2_; clear hD2_; intro K hK; (try simp only [opt_true]); go_simp; refine hK _ _ ?_; clear hK K
      apply wpN_maybe (i := 24) hT_ hD_ rfl (by kernel_rfl) d17_2 (by clear hS_; cases d17_2 <;> rfl)
      (case h => intro hc_; obtain rfl : d17_2 = true := hc_; (try simp only [opt_true]); intro W_ hW_; have hcW_ := (bcellW hW_).1; go_simp; first | done | exact rfl); (case hQ => exact fun _ _ _ h => h); (case hS => exact hS_)
      intro hD2_; clear hD_; have hD_ := hD2_; clear hD2_; intro K hK; (try simp only [opt_true]); go_simp; refine hK _ _ ?_; clear hK K
      apply wpN_maybe (i := 25) hT_ hD_ rfl (by kernel_rfl) d17_2 (by clear hS_; cases d17_2 <;> rfl)
      (case h => intro hc_; obtain rfl : d17_2 = true := hc_; (try simp only [opt_true]); intro W_ hW_; have hY_ := (hX3).below hW_ (hg3); have y0_ := hY_.c 8 (.int .i64 x.gr) (rfl); go_simp; first | done | exact rfl); (case hQ => exact fun _ _ _ h => h); (case hS => exact hS_)
      intro hD2_; clear hD_; have hD_ := hD2_; clear hD2_; intro K hK; (try simp only [opt_true]); go_simp; refine hK _ _ ?_; clear hK K
      refine wpN_callm (S := Below w3.heap.size w3) (i := 26) hD_ rfl (by kernel_rfl) d17_2 (by clear hS_; cases d17_2 <;> rfl) (.bool p4) ?_ hS_ ?_
      · intro hc_; obtain rfl : d17_2 = true := hc_; intro N_ hN_; generalize hA_ : Act.mk _ _ = A_ at hN_ ⊢; (have v157_ := (congrArg (fun z_ : Act => z_.eval (.tmp 157)) hA_.symm).trans (evalL _ _ 157); simp only [getL64, getL8, getL1, getL0, opt_true, Bool.not_false] at v157_); (have v159_ := (congrArg (fun z_ : Act => z_.eval (.tmp 159)) hA_.symm).trans (evalL _ _ 159); simp only [getL64, getL8, getL1, getL0, opt_true, Bool.not_false] at v159_); clear hA_; have vc_ : ∀ v_, Act.eval A_ (.const v_) = v_ := (fun _ => rfl); have vf_ : ∀ f_, Act.eval A_ (.func f_) = .func (.func f_) #[] #[] := (fun _ => rfl); generalize Act.eval A_ = ev_ at vc_ vf_ v157_ v159_ ⊢; go_simp; go_at_call 30; refine (bounce_any' x.rs x.gr _ p4 HHp4.out).mono ?_; rintro e w9 ⟨rfl, hb9⟩; exact hN_ _ (hS_.trans (hb9.mono hS_.size))
      intro hD2_; clear hD_; have hD_ := hD2_; clear hD2_; intro K hK w_ hS2_; go_simp; refine hK _ _ ?_; clear hK K hS_; have hS_ := hS2_; clear hS2_
      obtain ⟨d17_3, hd17_3⟩ : ∃ b_, b_ = (d17_2 && p4) := ⟨_, rfl⟩
      apply wpN_maybe (i := 27) hT_ hD_ rfl (by kernel_rfl) true (by exact rfl) (.bool d17_3) (fun _ _ _ h => h) hS_ (by intro _ W_ hW_; rw [hd17_3]; cases d17_2 <;> (go_simp; try exact rfl))
      have Hd17_3 := hQ0 hd17_3; clear hd17_3
      intro hD2_; clear hD_; have hD_ := hD2_; clear hD2_; intro K hK; (try simp only [opt_true]); go_simp; refine hK _ _ ?_; clear hK K
      apply wpN_maybe (i := 28) hT_ hD_ rfl (by kernel_rfl) true (by exact rfl)
      (case h => intro _; intro W_ hW_; have hcW_ := (bcellW hW_).1; go_simp; first | done | exact rfl); (case hQ => exact fun _ _ _ h => h); (case hS => exact hS_)
      intro hD2_; clear hD_; have hD_ := hD2_; clear hD2_; intro K hK; (try simp only [opt_true]); go_simp; refine hK _ _ ?_; clear hK K
      apply wpN_maybe (i := 29) hT_ hD_ rfl (by kernel_rfl) d17_3 (by clear hS_; cases d17_3 <;> rfl)
      (case h => intro hc_; obtain rfl : d17_3 = true := hc_; (try simp only [opt_true]); intro W_ hW_; have hcW_ := (bcellW hW_).1; go_simp; first | done | exact rfl); (case hQ => exact fun _ _ _ h => h); (case hS => exact hS_)
      intro hD2_; clear hD_; have hD_ := hD2_; clear hD2_; intro K hK; (try simp only [opt_true]); go_simp; refine hK _ _ ?_; clear hK K
      apply wpN_maybe (i := 30) hT_ hD_ rfl (by kernel_rfl) d17_3 (by clear hS_; cases d17_3 <;> rfl)
      (case h => intro hc_; obtain rfl : d17_3 = true := hc_; (try simp only [opt_true]); intro W_ hW_; have hY_ := (hX3).below hW_ (hg3); have y0_ := hY_.c 9 (.int .i64 x.kk) (rfl); go_simp; first | done | exact rfl); (case hQ => exact fun _ _ _ h => h); (case hS => exact hS_)
      intro hD2_; clear hD_; have hD_ := hD2_; clear hD2_; intro K hK; (try simp only [opt_true]); go_simp; refine hK _ _ ?_; clear hK K
      apply wpN_maybe (i := 31) hT_ hD_ rfl (by kernel_rfl) d17_3 (by clear hS_; cases d17_3 <;> rfl)
      (case h => intro hc_; obtain rfl : d17_3 = true := hc_; (try simp only [opt_true]); intro W_ hW_; have hcW_ := (bcellW hW_).1; go_simp; first | done | exact rfl); (case hQ => exact fun _ _ _ h => h); (case hS => exact hS_)
      intro hD2_; clear hD_; have hD_ := hD2_; clear hD2_; intro K hK; (try simp only [opt_true]); go_simp; refine hK _ _ ?_; clear hK K
      apply wpN_maybe (i := 32) hT_ hD_ rfl (by kernel_rfl) d17_3 (by clear hS_; cases d17_3 <;> rfl)
      (case h => intro hc_; obtain rfl : d17_3 = true := hc_; (try simp only [opt_true]); intro W_ hW_; have hY_ := (hX3).below hW_ (hg3); have y0_ := hY_.c 10 (.int .i64 x.mn) (rfl); go_simp; first | done | exact rfl); (case hQ => exact fun _ _ _ h => h); (case hS => exact hS_)
      intro hD2_; clear hD_; have hD_ := hD2_; clear hD2_; intro K hK; (try simp only [opt_true]); go_simp; refine hK _ _ ?_; clear hK K
      apply wpN_freshm (S := Below w3.heap.size w3) (i := 33) hD_ rfl (by kernel_rfl) d17_3 (by clear hS_; cases d17_3 <;> rfl)
      (case h => intro hc_; obtain rfl : d17_3 = true := hc_; generalize hev_ : Act.eval _ = ev_; (have v164_ := (congrFun hev_.symm (.tmp 164)).trans (evalL _ _ 164); simp only [getL64, getL8, getL1, getL0, opt_true, Bool.not_false] at v164_); (have v166_ := (congrFun hev_.symm (.tmp 166)).trans (evalL _ _ 166); simp only [getL64, getL8, getL1, getL0, opt_true, Bool.not_false] at v166_); have vc_ : ∀ v_, ev_ (.const v_) = v_ := (fun _ => by rw [← hev_]; rfl); clear hev_; go_simp; first | done | exact rfl | exact ⟨rfl, rfl⟩); (case hS => exact hS_); (case hS' => exact (hS_).alloc (hS_).size _)
      intro hD2_; clear hD_; have hD_ := hD2_; clear hD2_; intro K hK w_ hS2_ hw0_; have hw_ := hQ0 hw0_; clear hw0_; go_simp; refine hK _ _ ?_; clear hK K hS_; have hS_ := hS2_; clear hS2_
      refine wpN_callm (S := Below w3.heap.size w3) (i := 34) hD_ rfl (by kernel_rfl) d17_3 (by clear hS_; cases d17_3 <;> rfl) (.bool p5) ?_ hS_ ?_
      · intro hc_; obtain rfl : d17_3 = true := hc_; intro N_ hN_; generalize hA_ : Act.mk _ _ = A_ at hN_ ⊢; (have v167_ := (congrArg (fun z_ : Act => z_.eval (.tmp 167)) hA_.symm).trans (evalL _ _ 167); simp only [getL64, getL8, getL1, getL0, opt_true, Bool.not_false] at v167_); clear hA_; have vc_ : ∀ v_, Act.eval A_ (.const v_) = v_ := (fun _ => rfl); have vf_ : ∀ f_, Act.eval A_ (.func f_) = .func (.func f_) #[] #[] := (fun _ => rfl); generalize Act.eval A_ = ev_ at vc_ vf_ v167_ ⊢; obtain rfl := hw_.out rfl; go_simp; go_at_call 25; refine (in_new2' 0 16384 x.kk x.mn _ _ p5 HHp5.out (by simp)).mono ?_; rintro e w9 ⟨rfl, rfl⟩; exact hN_ _ hS_
      intro hD2_; clear hD_; have hD_ := hD2_; clear hD2_; intro K hK w_ hS2_; go_simp; refine hK _ _ ?_; clear hK K hS_; have hS_ := hS2_; clear hS2_
      as_aux_lemma =>
       obtain ⟨d17_4, hd17_4⟩ : ∃ b_, b_ = (d17_3 && p5) := ⟨_, rfl⟩
       apply wpN_maybe (i := 35) hT_ hD_ rfl (by kernel_rfl) true (by exact rfl) (.bool d17_4) (fun _ _ _ h => h) hS_ (by intro _ W_ hW_; rw [hd17_4]; cases d17_3 <;> (go_simp; try exact rfl))
       have Hd17_4 := hQ0 hd17_4; clear hd17_4
       intro hD2_; clear hD_; have hD_ := hD2_; clear hD2_; intro K hK; (try simp only [opt_true]); go_simp; refine hK _ _ ?_; clear hK K
       apply wpN_maybe (i := 36) hT_ hD_ rfl (by kernel_rfl) true (by exact rfl)
       (case h => intro _; intro W_ hW_; have hcW_ := (bcellW hW_).1; go_simp; first | done | exact rfl); (case hQ => exact fun _ _ _ h => h); (case hS => exact hS_)
       intro hD2_; clear hD_; have hD_ := hD2_; clear hD2_; intro K hK; (try simp only [opt_true]); go_simp; refine hK _ _ ?_; clear hK K
       apply wpN_maybe (i := 37) hT_ hD_ rfl (by kernel_rfl) d17_4 (by clear hS_; cases d17_4 <;> rfl)
       (case h => intro hc_; obtain rfl : d17_4 = true := hc_; (try simp only [opt_true]); intro W_ hW_; have hcW_ := (bcellW hW_).1; go_simp; first | done | exact rfl); (case hQ => exact fun _ _ _ h => h); (case hS => exact hS_)
       intro hD2_; clear hD_; have hD_ := hD2_; clear hD2_; intro K hK; (try simp only [opt_true]); go_simp; refine hK _ _ ?_; clear hK K
       apply wpN_maybe (i := 38) hT_ hD_ rfl (by kernel_rfl) d17_4 (by clear hS_; cases d17_4 <;> rfl)
       (case h => intro hc_; obtain rfl : d17_4 = true := hc_; (try simp only [opt_true]); intro W_ hW_; have hY_ := (hX3).below hW_ (hg3); have y0_ := hY_.c 11 (.int .i64 x.cl) (rfl); go_simp; first | done | exact rfl); (case hQ => exact fun _ _ _ h => h); (case hS => exact hS_)
       intro hD2_; clear hD_; have hD_ := hD2_; clear hD2_; intro K hK; (try simp only [opt_true]); go_simp; refine hK _ _ ?_; clear hK K
       apply wpN_maybe (i := 39) hT_ hD_ rfl (by kernel_rfl) d17_4 (by clear hS_; cases d17_4 <;> rfl)
       (case h => intro hc_; obtain rfl : d17_4 = true := hc_; (try simp only [opt_true]); intro W_ hW_; have hcW_ := (bcellW hW_).1; go_simp; first | done | exact rfl); (case hQ => exact fun _ _ _ h => h); (case hS => exact hS_)
       intro hD2_; clear hD_; have hD_ := hD2_; clear hD2_; intro K hK; (try simp only [opt_true]); go_simp; refine hK _ _ ?_; clear hK K
       apply wpN_maybe (i := 40) hT_ hD_ rfl (by kernel_rfl) d17_4 (by clear hS_; cases d17_4 <;> rfl)
       (case h => intro hc_; obtain rfl : d17_4 = true := hc_; (try simp only [opt_true]); intro W_ hW_; have hY_ := (hX3).below hW_ (hg3); have y0_ := hY_.c 12 (.int .i64 x.sw) (rfl); go_simp; first | done | exact rfl); (case hQ => exact fun _ _ _ h => h); (case hS => exact hS_)
       intro hD2_; clear hD_; have hD_ := hD2_; clear hD2_; intro K hK; (try simp only [opt_true]); go_simp; refine hK _ _ ?_; clear hK K
       refine wpN_callm (S := Below w3.heap.size w3) (i := 41) hD_ rfl (by kernel_rfl) d17_4 (by clear hS_; cases d17_4 <;> rfl) (.bool p6) ?_ hS_ ?_
       · intro hc_; obtain rfl : d17_4 = true := hc_; intro N_ hN_; generalize hA_ : Act.mk _ _ = A_ at hN_ ⊢; (have v172_ := (congrArg (fun z_ : Act => z_.eval (.tmp 172)) hA_.symm).trans (evalL _ _ 172); simp only [getL64, getL8, getL1, getL0, opt_true, Bool.not_false] at v172_); (have v174_ := (congrArg (fun z_ : Act => z_.eval (.tmp 174)) hA_.symm).trans (evalL _ _ 174); simp only [getL64, getL8, getL1, getL0, opt_true, Bool.not_false] at v174_); clear hA_; have vc_ : ∀ v_, Act.eval A_ (.const v_) = v_ := (fun _ => rfl); have vf_ : ∀ f_, Act.eval A_ (.func f_) = .func (.func f_) #[] #[] := (fun _ => rfl); generalize Act.eval A_ = ev_ at vc_ vf_ v172_ v174_ ⊢; go_simp; go_at_call 31; refine (ports_any' x.cl x.sw _ p6 HHp6.out).mono ?_; rintro e w9 ⟨rfl, hb9⟩; exact hN_ _ (hS_.trans (hb9.mono hS_.size))
       intro hD2_; clear hD_; have hD_ := hD2_; clear hD2_; intro K hK w_ hS2_; go_simp; refine hK _ _ ?_; clear hK K hS_; have hS_ := hS2_; clear hS2_
       obtain ⟨d17_5, hd17_5⟩ : ∃ b_, b_ = (d17_4 && p6) := ⟨_, rfl⟩
       apply wpN_maybe (i := 42) hT_ hD_ rfl (by kernel_rfl) true (by exact rfl) (.bool d17_5) (fun _ _ _ h => h) hS_ (by intro _ W_ hW_; rw [hd17_5]; cases d17_4 <;> (go_simp; try exact rfl))
       have Hd17_5 := hQ0 hd17_5; clear hd17_5
       intro hD2_; clear hD_; have hD_ := hD2_; clear hD2_; intro K hK; (try simp only [opt_true]); go_simp; refine hK _ _ ?_; clear hK K
       refine wpZ_nil (by kernel_rfl) ?_
       (try simp only [List.filterMap_cons, List.filterMap_nil, List.getElem?_cons_succ, List.getElem?_cons_zero])
       (try go_simp)
       as_aux_lemma =>
        have hCk := HC3.out.below hS_ (Nat.le_refl _)
        have hTk := HT3.out.below hS_ HT3.out.lt
        have hBk : Below w.heap.size w w_ := HB3.out.trans (hS_.mono HB3.out.size)
        have HF : Hid (d17_5 = x.fB) := hQ0 (by simp only [Hd17_5.out, Hd17_4.out, Hd17_3.out, Hd17_2.out, Hd17_1.out, HHp1.out, HHp2.out, HHp3.out, HHp4.out, HHp5.out, HHp6.out, HHb0.out]; rfl)
        have HSH : Hid (b0 = x.sB) := hQ0 (by simp only [Hd17_5.out, Hd17_4.out, Hd17_3.out, Hd17_2.out, Hd17_1.out, HHp1.out, HHp2.out, HHp3.out, HHp4.out, HHp5.out, HHp6.out, HHb0.out]; first | done | rfl)
        have HCk := hQ0 hCk
        have HTk := hQ0 hTk
        have HBk := hQ0 hBk
        clear hCk hTk hBk hS_
        go_wp2_with (go_at_call 27; refine (look_any _ cb mb n (w.heap.size + 1) e L x.nm d17_5 b0 HCk.out (HN.out x (List.mem_of_getElem? HX.out)) (by unfold maxLen; have := HN2.out; have := HN3.out; omega) hcb hmb).mono ?_; rintro ε w4 ⟨rfl, hb4, m, hm, hC4⟩)
        go_roundg (l.length - (k + 1) + 1)
        case measure => omega
        case rel =>
         refine ⟨k + 1, m, _, _, by omega, by omega, by go_num, by omega, HBk.out.trans (hb4.mono (by have := HBk.out.size; omega)), HTk.out.below hb4 (by omega), hC4, hQ0 ?_⟩
         rw [fold_next HX.out, ← HJ.out, HF.out, HSH.out]
         rfl
  · obtain rfl : k = l.length := by omega
    have HBe := hQ0 hb_ws
    have HTr := hQ0 hTr
    have HCr := hQ0 hCr
    clear hb_ws hTr hCr
    go_wp2_with fail
    show R _ _
    have hj := HJ.out
    rw [List.take_length] at hj
    exact HR.out _ _ n rfl rfl rfl HF3.out.symm HBe.out HTr.out hnk (by rw [← hj]; exact HCr.out)
end Go.Proofs.YtbpcjpiaimdpnaaGreatDoor
