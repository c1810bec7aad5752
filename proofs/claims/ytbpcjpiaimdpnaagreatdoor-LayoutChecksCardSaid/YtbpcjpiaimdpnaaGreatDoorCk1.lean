/- Merged texts: Warm Tb Draw DrawTwo DrawR DrawZ DrawM LcA ScanSpec. -/
import Derived.StillTail
import Derived.StillTactics
import Derived.Below
import Derived.Laws.Rows
import Derived.Lib.Hide
import Derived.BigCall
import Derived.BigFrame
import Derived.Test.YtbpcjpiaimdpnaaGreatDoorProg
import Derived.Deep.LoopGhost
import Derived.Laws.Unary
import Derived.RegionTactic
set_option linter.unusedSimpArgs false
set_option linter.unusedVariables false
namespace Go.Proofs.YtbpcjpiaimdpnaaGreatDoor
open Go Go.RowKit
section
open Go Go.RowKit
theorem zA {α : Type} {l : List α} {i : Nat} {o : Option α} (h : l[i]? = o) : l.toArray[i]? = o := List.getElem?_toArray.trans h
theorem zB {α : Type} {a : α} {l : List α} : (a :: l)[0]? = some a := List.getElem?_cons_zero
theorem zC {α : Type} {a : α} {l : List α} {i : Nat} {o : Option α} (h : l[i]? = o) : (a :: l)[i + 1]? = o := List.getElem?_cons_succ.trans h
theorem hQ0 {p : Prop} (h : p) : RowKit.Hid p := Lib.hid h
theorem bB {v : Value} (w : World) : v = v ∧ Below w.heap.size w w := ⟨rfl, Below.refl _ _⟩
end
section
variable {P : Program} {ops : Array Oper} {md : Region.Mode} {S : World → Prop}
def givesUpon (P : Program) (S : World → Prop) (v : Value) : Result Next → Prop
  | .ok (.value u) w' => u = v ∧ S w'
  | .ok .skip w' => v = undef ∧ S w'
  | .ok (.enter f args) w' => Calls P f args w' (fun e w'' => e = .returned v ∧ S w'')
  | _ => False
theorem givesUpon_value (v u : Value) (w : World) : givesUpon P S v (.ok (.value u) w) = (u = v ∧ S w) := rfl
theorem givesUpon_skip (v : Value) (w : World) : givesUpon P S v (.ok .skip w) = (v = undef ∧ S w) := rfl
theorem givesUpon_enter (v : Value) (f : FuncId) (args : Array Value) (w : World) : givesUpon P S v (.ok (.enter f args) w) = Calls P f args w (fun e w'' => e = .returned v ∧ S w'') := rfl
def gives (P : Program) (S : World → Prop) (o : Oper) (a : Act) (v : Value) : Prop := ∀ w, S w → givesUpon P S v ((execOp a.eval o).run P w)
def YieldsIn (P : Program) (ops : Array Oper) (S : World → Prop) (o : Oper) (v : Value) (a : Act) : Prop :=
  (Region.wanted o (yielded ops a.tmps) = true ∧ gives P S o a v) ∨ (Region.wanted o (yielded ops a.tmps) = false ∧ v = undef)
theorem YieldsIn.of_same {o : Oper} {v : Value} {a a' : Act} (hy : YieldsIn P ops S o v a) (he : execOp a'.eval o = execOp a.eval o)
  (hw : Region.wanted o (yielded ops a'.tmps) = Region.wanted o (yielded ops a.tmps)) : YieldsIn P ops S o v a' := by
 unfold YieldsIn gives at *
 rw [he, hw]
 exact hy
theorem bcell {W w1 : World} {B : Nat} (hb : Below B W w1) : (∀ b o, b < B → w1.cell? ⟨b, o, none⟩ = W.cell? ⟨b, o, none⟩) ∧ (∀ b o, b < B → w1.frozen? ⟨b, o, none⟩ = W.frozen? ⟨b, o, none⟩) :=
 ⟨fun b o h => hb.cell (p := ⟨b, o, none⟩) h, fun b o h => hb.frozen (p := ⟨b, o, none⟩) h⟩
def Own (N : Nat) (W W' : World) : Prop := N ≤ W'.heap.size ∧ Below N W W'
theorem Own.refl {N : Nat} {W : World} (h : N ≤ W.heap.size) : Own N W W := ⟨h, Below.refl _ _⟩
theorem Own.drew {N : Nat} {W W' : World} (h : Own N W W') : Own N W W'.drew := ⟨h.1, h.2.drew⟩
theorem Own.call {N : Nat} {W W1 W2 : World} (h : Own N W W1) (hb : Below W1.heap.size W1 W2) : Own N W W2 := ⟨Nat.le_trans h.1 hb.size, h.2.trans (hb.mono h.1)⟩
theorem Own.first {N : Nat} {W W1 : World} (h : N ≤ W.heap.size) (hb : Below W.heap.size W W1) : Own N W W1 := (Own.refl h).call hb
theorem Own.trans {N : Nat} {W W1 W2 : World} (h : Own N W W1) (h' : Own N W1 W2) : Own N W W2 := ⟨h'.1, h.2.trans h'.2⟩
theorem Own.setCell {N : Nat} {W W1 : World} (h : Own N W W1) {p : Addr} (hp : N ≤ p.block) (u : Value) : Own N W (W1.setCell p u) := ⟨by simpa [World.setCell] using h.1, h.2.setCell hp u⟩
theorem Own.alloc {N : Nat} {W W1 : World} (h : Own N W W1) (o : Obj) : Own N W (W1.alloc o) := ⟨Nat.le_trans h.1 (by simp), h.2.alloc h.1 o⟩
theorem Own.cells {N : Nat} {W W1 : World} (h : Own N W W1) : (∀ b o, b < N → W1.cell? ⟨b, o, none⟩ = W.cell? ⟨b, o, none⟩) ∧ (∀ b o, b < N → W1.frozen? ⟨b, o, none⟩ = W.frozen? ⟨b, o, none⟩) := bcell h.2
theorem Own.below {N B : Nat} {w W W1 : World} (h : Own N W W1) (hb : Below B w W) (hB : B ≤ N) : Below B w W1 := hb.trans (h.2.mono hB)
end
attribute [go_sem] givesUpon_value givesUpon_skip givesUpon_enter
set_option linter.unusedVariables false
theorem cel2 {G : Prop} {N b : Nat} {W w : World} {v0 v1 : Value} (hb : Below N W w) (h1 : b < N) (h2 : b < w.heap.size) (c0 : W.cell? ⟨b, 0, none⟩ = some v0) (c1 : W.cell? ⟨b, 1, none⟩ = some v1) (hf : ∀ o, W.frozen? ⟨b, o, none⟩ = false) (k : w.cell? ⟨b, 0, none⟩ = some v0 → w.cell? ⟨b, 1, none⟩ = some v1 → (∀ o, w.frozen? ⟨b, o, none⟩ = false) → (b < w.heap.size ∧ b < w.heap.size + 1 ∧ b < w.heap.size + 1 + 1 ∧ b < w.heap.size + 1 + 1 + 1) → G) : G :=
 k (by rw [hb.cell (p := ⟨b, 0, none⟩) h1]; exact c0) (by rw [hb.cell (p := ⟨b, 1, none⟩) h1]; exact c1) (fun o => by rw [hb.frozen (p := ⟨b, o, none⟩) h1]; exact hf o) ⟨h2, by omega, by omega, by omega⟩
theorem bR (B : Nat) (w : World) : Below B w w := Below.refl B w
theorem bS {B : Nat} {a w : World} {p : Addr} (h : Below B a w) (hp : B ≤ p.block) (u : Value) : Below B a (w.setCell p u) := h.setCell hp u
theorem bA {B : Nat} {a w : World} (h : Below B a w) (hB : B ≤ w.heap.size) (o : Obj) : Below B a (w.alloc o) := h.alloc hB o
theorem bD {B : Nat} {a w : World} (h : Below B a w) : Below B a w.drew := h.drew
theorem bT {N M : Nat} {a b c : World} (h : Below N a b) (k : Below M b c) (hN : N ≤ M) : Below N a c := h.trans (k.mono hN)
theorem bO {N B : Nat} {w W W1 : World} (h : Own N W W1) (hb : Below B w W) (hB : B ≤ N) : Below B w W1 := h.below hb hB
end Go.Proofs.YtbpcjpiaimdpnaaGreatDoor
namespace Go.Proofs.YtbpcjpiaimdpnaaGreatDoor
open Go Go.RowKit
set_option linter.unusedVariables false
def RowsAt {α : Type} (n : Nat) (f : α → List Value) (w : World) (A : Option Addr) (l : List α) : Prop := ∀ k x, l[k]? = some x → ∃ g o, A = some ⟨g, o, none⟩ ∧ g < w.heap.size ∧ ∀ j u, (f x)[j]? = some u → w.cell? ⟨g, o + (k * n + j), none⟩ = some u
section
variable {α : Type} {n : Nat} {f : α → List Value} {w w1 : World} {A : Option Addr} {l : List α}
theorem RowsAt.nil : RowsAt n f w A [] := fun k x h => by simp at h
theorem RowsAt.below {B : Nat} (h : RowsAt n f w A l) (hb : Below B w w1) (hB : w.heap.size ≤ B) : RowsAt n f w1 A l := fun k x hx => by
 obtain ⟨g, o, hA, hg, hc⟩ := h k x hx
 exact ⟨g, o, hA, Nat.lt_of_lt_of_le hg hb.size, fun j u hu => (hb.cell (p := ⟨g, o + (k * n + j), none⟩) (Nat.lt_of_lt_of_le hg hB)).trans (hc j u hu)⟩
end
structure Wl where
  nm : ByteArray
  kd : Int
  lv : Int
  a1 : Int
  a2 : Int
  b1 : Int
  b2 : Int
  rs : Int
  gr : Int
  kk : Int
  mn : Int
  cl : Int
  sw : Int
def Wl.cells (x : Wl) : List Value := [.string x.nm, .int .i64 x.kd, .int .i64 x.lv, .int .i64 x.a1, .int .i64 x.a2, .int .i64 x.b1, .int .i64 x.b2, .int .i64 x.rs, .int .i64 x.gr, .int .i64 x.kk, .int .i64 x.mn, .int .i64 x.cl, .int .i64 x.sw]
def Wl.v (x : Wl) : Value := .agg #[.string x.nm, .int .i64 x.kd, .int .i64 x.lv, .int .i64 x.a1, .int .i64 x.a2, .int .i64 x.b1, .int .i64 x.b2, .int .i64 x.rs, .int .i64 x.gr, .int .i64 x.kk, .int .i64 x.mn, .int .i64 x.cl, .int .i64 x.sw]
theorem Wl.get {w : World} {A : Option Addr} {l : List Wl} (h : RowsAt 13 Wl.cells w A l) {k : Nat} {x : Wl} (hx : l[k]? = some x) : ∃ g o, A = some ⟨g, o, none⟩ ∧ g < w.heap.size ∧ w.cell? ⟨g, o + k * 13, none⟩ = some (.string x.nm) ∧ w.cell? ⟨g, o + k * 13 + 1, none⟩ = some (.int .i64 x.kd) ∧ w.cell? ⟨g, o + k * 13 + 2, none⟩ = some (.int .i64 x.lv) ∧ w.cell? ⟨g, o + k * 13 + 3, none⟩ = some (.int .i64 x.a1) ∧ w.cell? ⟨g, o + k * 13 + 4, none⟩ = some (.int .i64 x.a2) ∧ w.cell? ⟨g, o + k * 13 + 5, none⟩ = some (.int .i64 x.b1) ∧ w.cell? ⟨g, o + k * 13 + 6, none⟩ = some (.int .i64 x.b2) ∧ w.cell? ⟨g, o + k * 13 + 7, none⟩ = some (.int .i64 x.rs) ∧ w.cell? ⟨g, o + k * 13 + 8, none⟩ = some (.int .i64 x.gr) ∧ w.cell? ⟨g, o + k * 13 + 9, none⟩ = some (.int .i64 x.kk) ∧ w.cell? ⟨g, o + k * 13 + 10, none⟩ = some (.int .i64 x.mn) ∧ w.cell? ⟨g, o + k * 13 + 11, none⟩ = some (.int .i64 x.cl) ∧ w.cell? ⟨g, o + k * 13 + 12, none⟩ = some (.int .i64 x.sw) := by
 obtain ⟨g, o, hA, hg, hc⟩ := h k x hx
 simp only [← Nat.add_assoc] at hc
 exact ⟨g, o, hA, hg, hc 0 _ rfl, hc 1 _ rfl, hc 2 _ rfl, hc 3 _ rfl, hc 4 _ rfl, hc 5 _ rfl, hc 6 _ rfl, hc 7 _ rfl, hc 8 _ rfl, hc 9 _ rfl, hc 10 _ rfl, hc 11 _ rfl, hc 12 _ rfl⟩
structure Ac where
  nm : ByteArray
  lv : Int
  c1 : Int
  c2 : Int
  s1 : Int
  s2 : Int
  e1 : Int
  e2 : Int
  rs : Int
  gr : Int
  mn : Int
  sw : Int
def Ac.cells (x : Ac) : List Value := [.string x.nm, .int .i64 x.lv, .int .i64 x.c1, .int .i64 x.c2, .int .i64 x.s1, .int .i64 x.s2, .int .i64 x.e1, .int .i64 x.e2, .int .i64 x.rs, .int .i64 x.gr, .int .i64 x.mn, .int .i64 x.sw]
def Ac.v (x : Ac) : Value := .agg #[.string x.nm, .int .i64 x.lv, .int .i64 x.c1, .int .i64 x.c2, .int .i64 x.s1, .int .i64 x.s2, .int .i64 x.e1, .int .i64 x.e2, .int .i64 x.rs, .int .i64 x.gr, .int .i64 x.mn, .int .i64 x.sw]
theorem Ac.get {w : World} {A : Option Addr} {l : List Ac} (h : RowsAt 12 Ac.cells w A l) {k : Nat} {x : Ac} (hx : l[k]? = some x) : ∃ g o, A = some ⟨g, o, none⟩ ∧ g < w.heap.size ∧ w.cell? ⟨g, o + k * 12, none⟩ = some (.string x.nm) ∧ w.cell? ⟨g, o + k * 12 + 1, none⟩ = some (.int .i64 x.lv) ∧ w.cell? ⟨g, o + k * 12 + 2, none⟩ = some (.int .i64 x.c1) ∧ w.cell? ⟨g, o + k * 12 + 3, none⟩ = some (.int .i64 x.c2) ∧ w.cell? ⟨g, o + k * 12 + 4, none⟩ = some (.int .i64 x.s1) ∧ w.cell? ⟨g, o + k * 12 + 5, none⟩ = some (.int .i64 x.s2) ∧ w.cell? ⟨g, o + k * 12 + 6, none⟩ = some (.int .i64 x.e1) ∧ w.cell? ⟨g, o + k * 12 + 7, none⟩ = some (.int .i64 x.e2) ∧ w.cell? ⟨g, o + k * 12 + 8, none⟩ = some (.int .i64 x.rs) ∧ w.cell? ⟨g, o + k * 12 + 9, none⟩ = some (.int .i64 x.gr) ∧ w.cell? ⟨g, o + k * 12 + 10, none⟩ = some (.int .i64 x.mn) ∧ w.cell? ⟨g, o + k * 12 + 11, none⟩ = some (.int .i64 x.sw) := by
 obtain ⟨g, o, hA, hg, hc⟩ := h k x hx
 simp only [← Nat.add_assoc] at hc
 exact ⟨g, o, hA, hg, hc 0 _ rfl, hc 1 _ rfl, hc 2 _ rfl, hc 3 _ rfl, hc 4 _ rfl, hc 5 _ rfl, hc 6 _ rfl, hc 7 _ rfl, hc 8 _ rfl, hc 9 _ rfl, hc 10 _ rfl, hc 11 _ rfl⟩
structure Ps where
  nm : ByteArray
  lv : Int
  c1 : Int
  c2 : Int
  sz : Int
  rs : Int
  gr : Int
  kk : Int
  mn : Int
  cl : Int
  sw : Int
def Ps.cells (x : Ps) : List Value := [.string x.nm, .int .i64 x.lv, .int .i64 x.c1, .int .i64 x.c2, .int .i64 x.sz, .int .i64 x.rs, .int .i64 x.gr, .int .i64 x.kk, .int .i64 x.mn, .int .i64 x.cl, .int .i64 x.sw]
def Ps.v (x : Ps) : Value := .agg #[.string x.nm, .int .i64 x.lv, .int .i64 x.c1, .int .i64 x.c2, .int .i64 x.sz, .int .i64 x.rs, .int .i64 x.gr, .int .i64 x.kk, .int .i64 x.mn, .int .i64 x.cl, .int .i64 x.sw]
theorem Ps.get {w : World} {A : Option Addr} {l : List Ps} (h : RowsAt 11 Ps.cells w A l) {k : Nat} {x : Ps} (hx : l[k]? = some x) : ∃ g o, A = some ⟨g, o, none⟩ ∧ g < w.heap.size ∧ w.cell? ⟨g, o + k * 11, none⟩ = some (.string x.nm) ∧ w.cell? ⟨g, o + k * 11 + 1, none⟩ = some (.int .i64 x.lv) ∧ w.cell? ⟨g, o + k * 11 + 2, none⟩ = some (.int .i64 x.c1) ∧ w.cell? ⟨g, o + k * 11 + 3, none⟩ = some (.int .i64 x.c2) ∧ w.cell? ⟨g, o + k * 11 + 4, none⟩ = some (.int .i64 x.sz) ∧ w.cell? ⟨g, o + k * 11 + 5, none⟩ = some (.int .i64 x.rs) ∧ w.cell? ⟨g, o + k * 11 + 6, none⟩ = some (.int .i64 x.gr) ∧ w.cell? ⟨g, o + k * 11 + 7, none⟩ = some (.int .i64 x.kk) ∧ w.cell? ⟨g, o + k * 11 + 8, none⟩ = some (.int .i64 x.mn) ∧ w.cell? ⟨g, o + k * 11 + 9, none⟩ = some (.int .i64 x.cl) ∧ w.cell? ⟨g, o + k * 11 + 10, none⟩ = some (.int .i64 x.sw) := by
 obtain ⟨g, o, hA, hg, hc⟩ := h k x hx
 simp only [← Nat.add_assoc] at hc
 exact ⟨g, o, hA, hg, hc 0 _ rfl, hc 1 _ rfl, hc 2 _ rfl, hc 3 _ rfl, hc 4 _ rfl, hc 5 _ rfl, hc 6 _ rfl, hc 7 _ rfl, hc 8 _ rfl, hc 9 _ rfl, hc 10 _ rfl⟩
structure Fl where
  nm : ByteArray
  lv : Int
  p1 : Int
  p2 : Int
  ln : Int
  mi : Bool
  lo : Int
  hi : Int
  up : Int
  dn : Int
  mx : Int
  rs : Int
  gr : Int
  cl : Int
  sw : Int
def Fl.cells (x : Fl) : List Value := [.string x.nm, .int .i64 x.lv, .int .i64 x.p1, .int .i64 x.p2, .int .i64 x.ln, .bool x.mi, .int .i64 x.lo, .int .i64 x.hi, .int .i64 x.up, .int .i64 x.dn, .int .i64 x.mx, .int .i64 x.rs, .int .i64 x.gr, .int .i64 x.cl, .int .i64 x.sw]
def Fl.v (x : Fl) : Value := .agg #[.string x.nm, .int .i64 x.lv, .int .i64 x.p1, .int .i64 x.p2, .int .i64 x.ln, .bool x.mi, .int .i64 x.lo, .int .i64 x.hi, .int .i64 x.up, .int .i64 x.dn, .int .i64 x.mx, .int .i64 x.rs, .int .i64 x.gr, .int .i64 x.cl, .int .i64 x.sw]
theorem Fl.get {w : World} {A : Option Addr} {l : List Fl} (h : RowsAt 15 Fl.cells w A l) {k : Nat} {x : Fl} (hx : l[k]? = some x) : ∃ g o, A = some ⟨g, o, none⟩ ∧ g < w.heap.size ∧ w.cell? ⟨g, o + k * 15, none⟩ = some (.string x.nm) ∧ w.cell? ⟨g, o + k * 15 + 1, none⟩ = some (.int .i64 x.lv) ∧ w.cell? ⟨g, o + k * 15 + 2, none⟩ = some (.int .i64 x.p1) ∧ w.cell? ⟨g, o + k * 15 + 3, none⟩ = some (.int .i64 x.p2) ∧ w.cell? ⟨g, o + k * 15 + 4, none⟩ = some (.int .i64 x.ln) ∧ w.cell? ⟨g, o + k * 15 + 5, none⟩ = some (.bool x.mi) ∧ w.cell? ⟨g, o + k * 15 + 6, none⟩ = some (.int .i64 x.lo) ∧ w.cell? ⟨g, o + k * 15 + 7, none⟩ = some (.int .i64 x.hi) ∧ w.cell? ⟨g, o + k * 15 + 8, none⟩ = some (.int .i64 x.up) ∧ w.cell? ⟨g, o + k * 15 + 9, none⟩ = some (.int .i64 x.dn) ∧ w.cell? ⟨g, o + k * 15 + 10, none⟩ = some (.int .i64 x.mx) ∧ w.cell? ⟨g, o + k * 15 + 11, none⟩ = some (.int .i64 x.rs) ∧ w.cell? ⟨g, o + k * 15 + 12, none⟩ = some (.int .i64 x.gr) ∧ w.cell? ⟨g, o + k * 15 + 13, none⟩ = some (.int .i64 x.cl) ∧ w.cell? ⟨g, o + k * 15 + 14, none⟩ = some (.int .i64 x.sw) := by
 obtain ⟨g, o, hA, hg, hc⟩ := h k x hx
 simp only [← Nat.add_assoc] at hc
 exact ⟨g, o, hA, hg, hc 0 _ rfl, hc 1 _ rfl, hc 2 _ rfl, hc 3 _ rfl, hc 4 _ rfl, hc 5 _ rfl, hc 6 _ rfl, hc 7 _ rfl, hc 8 _ rfl, hc 9 _ rfl, hc 10 _ rfl, hc 11 _ rfl, hc 12 _ rfl, hc 13 _ rfl, hc 14 _ rfl⟩
structure Zn where
  nm : ByteArray
  lv : Int
  l1 : Int
  l2 : Int
  h1 : Int
  h2 : Int
  f1 : Int
  f2 : Int
  cl : Int
def Zn.cells (x : Zn) : List Value := [.string x.nm, .int .i64 x.lv, .int .i64 x.l1, .int .i64 x.l2, .int .i64 x.h1, .int .i64 x.h2, .int .i64 x.f1, .int .i64 x.f2, .int .i64 x.cl]
def Zn.v (x : Zn) : Value := .agg #[.string x.nm, .int .i64 x.lv, .int .i64 x.l1, .int .i64 x.l2, .int .i64 x.h1, .int .i64 x.h2, .int .i64 x.f1, .int .i64 x.f2, .int .i64 x.cl]
theorem Zn.get {w : World} {A : Option Addr} {l : List Zn} (h : RowsAt 9 Zn.cells w A l) {k : Nat} {x : Zn} (hx : l[k]? = some x) : ∃ g o, A = some ⟨g, o, none⟩ ∧ g < w.heap.size ∧ w.cell? ⟨g, o + k * 9, none⟩ = some (.string x.nm) ∧ w.cell? ⟨g, o + k * 9 + 1, none⟩ = some (.int .i64 x.lv) ∧ w.cell? ⟨g, o + k * 9 + 2, none⟩ = some (.int .i64 x.l1) ∧ w.cell? ⟨g, o + k * 9 + 3, none⟩ = some (.int .i64 x.l2) ∧ w.cell? ⟨g, o + k * 9 + 4, none⟩ = some (.int .i64 x.h1) ∧ w.cell? ⟨g, o + k * 9 + 5, none⟩ = some (.int .i64 x.h2) ∧ w.cell? ⟨g, o + k * 9 + 6, none⟩ = some (.int .i64 x.f1) ∧ w.cell? ⟨g, o + k * 9 + 7, none⟩ = some (.int .i64 x.f2) ∧ w.cell? ⟨g, o + k * 9 + 8, none⟩ = some (.int .i64 x.cl) := by
 obtain ⟨g, o, hA, hg, hc⟩ := h k x hx
 simp only [← Nat.add_assoc] at hc
 exact ⟨g, o, hA, hg, hc 0 _ rfl, hc 1 _ rfl, hc 2 _ rfl, hc 3 _ rfl, hc 4 _ rfl, hc 5 _ rfl, hc 6 _ rfl, hc 7 _ rfl, hc 8 _ rfl⟩
structure Sc where
  nm : ByteArray
  lv : Int
  c1 : Int
  c2 : Int
  sz : Int
  lm : Int
  o1 : Int
  o2 : Int
  cl : Int
  sw : Int
def Sc.cells (x : Sc) : List Value := [.string x.nm, .int .i64 x.lv, .int .i64 x.c1, .int .i64 x.c2, .int .i64 x.sz, .int .i64 x.lm, .int .i64 x.o1, .int .i64 x.o2, .int .i64 x.cl, .int .i64 x.sw]
def Sc.v (x : Sc) : Value := .agg #[.string x.nm, .int .i64 x.lv, .int .i64 x.c1, .int .i64 x.c2, .int .i64 x.sz, .int .i64 x.lm, .int .i64 x.o1, .int .i64 x.o2, .int .i64 x.cl, .int .i64 x.sw]
theorem Sc.get {w : World} {A : Option Addr} {l : List Sc} (h : RowsAt 10 Sc.cells w A l) {k : Nat} {x : Sc} (hx : l[k]? = some x) : ∃ g o, A = some ⟨g, o, none⟩ ∧ g < w.heap.size ∧ w.cell? ⟨g, o + k * 10, none⟩ = some (.string x.nm) ∧ w.cell? ⟨g, o + k * 10 + 1, none⟩ = some (.int .i64 x.lv) ∧ w.cell? ⟨g, o + k * 10 + 2, none⟩ = some (.int .i64 x.c1) ∧ w.cell? ⟨g, o + k * 10 + 3, none⟩ = some (.int .i64 x.c2) ∧ w.cell? ⟨g, o + k * 10 + 4, none⟩ = some (.int .i64 x.sz) ∧ w.cell? ⟨g, o + k * 10 + 5, none⟩ = some (.int .i64 x.lm) ∧ w.cell? ⟨g, o + k * 10 + 6, none⟩ = some (.int .i64 x.o1) ∧ w.cell? ⟨g, o + k * 10 + 7, none⟩ = some (.int .i64 x.o2) ∧ w.cell? ⟨g, o + k * 10 + 8, none⟩ = some (.int .i64 x.cl) ∧ w.cell? ⟨g, o + k * 10 + 9, none⟩ = some (.int .i64 x.sw) := by
 obtain ⟨g, o, hA, hg, hc⟩ := h k x hx
 simp only [← Nat.add_assoc] at hc
 exact ⟨g, o, hA, hg, hc 0 _ rfl, hc 1 _ rfl, hc 2 _ rfl, hc 3 _ rfl, hc 4 _ rfl, hc 5 _ rfl, hc 6 _ rfl, hc 7 _ rfl, hc 8 _ rfl, hc 9 _ rfl⟩
structure La where
  nm : ByteArray
  lv : Int
  c1 : Int
  c2 : Int
  sz : Int
  sw : Int
def La.cells (x : La) : List Value := [.string x.nm, .int .i64 x.lv, .int .i64 x.c1, .int .i64 x.c2, .int .i64 x.sz, .int .i64 x.sw]
def La.v (x : La) : Value := .agg #[.string x.nm, .int .i64 x.lv, .int .i64 x.c1, .int .i64 x.c2, .int .i64 x.sz, .int .i64 x.sw]
theorem La.get {w : World} {A : Option Addr} {l : List La} (h : RowsAt 6 La.cells w A l) {k : Nat} {x : La} (hx : l[k]? = some x) : ∃ g o, A = some ⟨g, o, none⟩ ∧ g < w.heap.size ∧ w.cell? ⟨g, o + k * 6, none⟩ = some (.string x.nm) ∧ w.cell? ⟨g, o + k * 6 + 1, none⟩ = some (.int .i64 x.lv) ∧ w.cell? ⟨g, o + k * 6 + 2, none⟩ = some (.int .i64 x.c1) ∧ w.cell? ⟨g, o + k * 6 + 3, none⟩ = some (.int .i64 x.c2) ∧ w.cell? ⟨g, o + k * 6 + 4, none⟩ = some (.int .i64 x.sz) ∧ w.cell? ⟨g, o + k * 6 + 5, none⟩ = some (.int .i64 x.sw) := by
 obtain ⟨g, o, hA, hg, hc⟩ := h k x hx
 simp only [← Nat.add_assoc] at hc
 exact ⟨g, o, hA, hg, hc 0 _ rfl, hc 1 _ rfl, hc 2 _ rfl, hc 3 _ rfl, hc 4 _ rfl, hc 5 _ rfl⟩
structure Ra where
  nm : ByteArray
  fr : Int
  to : Int
  c1 : Int
  c2 : Int
  sz : Int
  d1 : Int
  d2 : Int
def Ra.cells (x : Ra) : List Value := [.string x.nm, .int .i64 x.fr, .int .i64 x.to, .int .i64 x.c1, .int .i64 x.c2, .int .i64 x.sz, .int .i64 x.d1, .int .i64 x.d2]
def Ra.v (x : Ra) : Value := .agg #[.string x.nm, .int .i64 x.fr, .int .i64 x.to, .int .i64 x.c1, .int .i64 x.c2, .int .i64 x.sz, .int .i64 x.d1, .int .i64 x.d2]
theorem Ra.get {w : World} {A : Option Addr} {l : List Ra} (h : RowsAt 8 Ra.cells w A l) {k : Nat} {x : Ra} (hx : l[k]? = some x) : ∃ g o, A = some ⟨g, o, none⟩ ∧ g < w.heap.size ∧ w.cell? ⟨g, o + k * 8, none⟩ = some (.string x.nm) ∧ w.cell? ⟨g, o + k * 8 + 1, none⟩ = some (.int .i64 x.fr) ∧ w.cell? ⟨g, o + k * 8 + 2, none⟩ = some (.int .i64 x.to) ∧ w.cell? ⟨g, o + k * 8 + 3, none⟩ = some (.int .i64 x.c1) ∧ w.cell? ⟨g, o + k * 8 + 4, none⟩ = some (.int .i64 x.c2) ∧ w.cell? ⟨g, o + k * 8 + 5, none⟩ = some (.int .i64 x.sz) ∧ w.cell? ⟨g, o + k * 8 + 6, none⟩ = some (.int .i64 x.d1) ∧ w.cell? ⟨g, o + k * 8 + 7, none⟩ = some (.int .i64 x.d2) := by
 obtain ⟨g, o, hA, hg, hc⟩ := h k x hx
 simp only [← Nat.add_assoc] at hc
 exact ⟨g, o, hA, hg, hc 0 _ rfl, hc 1 _ rfl, hc 2 _ rfl, hc 3 _ rfl, hc 4 _ rfl, hc 5 _ rfl, hc 6 _ rfl, hc 7 _ rfl⟩
structure Dr where
  nm : ByteArray
  lv : Int
  c1 : Int
  c2 : Int
  sz : Int
def Dr.cells (x : Dr) : List Value := [.string x.nm, .int .i64 x.lv, .int .i64 x.c1, .int .i64 x.c2, .int .i64 x.sz]
def Dr.v (x : Dr) : Value := .agg #[.string x.nm, .int .i64 x.lv, .int .i64 x.c1, .int .i64 x.c2, .int .i64 x.sz]
theorem Dr.get {w : World} {A : Option Addr} {l : List Dr} (h : RowsAt 5 Dr.cells w A l) {k : Nat} {x : Dr} (hx : l[k]? = some x) : ∃ g o, A = some ⟨g, o, none⟩ ∧ g < w.heap.size ∧ w.cell? ⟨g, o + k * 5, none⟩ = some (.string x.nm) ∧ w.cell? ⟨g, o + k * 5 + 1, none⟩ = some (.int .i64 x.lv) ∧ w.cell? ⟨g, o + k * 5 + 2, none⟩ = some (.int .i64 x.c1) ∧ w.cell? ⟨g, o + k * 5 + 3, none⟩ = some (.int .i64 x.c2) ∧ w.cell? ⟨g, o + k * 5 + 4, none⟩ = some (.int .i64 x.sz) := by
 obtain ⟨g, o, hA, hg, hc⟩ := h k x hx
 simp only [← Nat.add_assoc] at hc
 exact ⟨g, o, hA, hg, hc 0 _ rfl, hc 1 _ rfl, hc 2 _ rfl, hc 3 _ rfl, hc 4 _ rfl⟩
structure Ln where
  nm : ByteArray
  lv : Int
  a1 : Int
  a2 : Int
  v1 : Int
  v2 : Int
  cl : Int
def Ln.cells (x : Ln) : List Value := [.string x.nm, .int .i64 x.lv, .int .i64 x.a1, .int .i64 x.a2, .int .i64 x.v1, .int .i64 x.v2, .int .i64 x.cl]
def Ln.v (x : Ln) : Value := .agg #[.string x.nm, .int .i64 x.lv, .int .i64 x.a1, .int .i64 x.a2, .int .i64 x.v1, .int .i64 x.v2, .int .i64 x.cl]
theorem Ln.get {w : World} {A : Option Addr} {l : List Ln} (h : RowsAt 7 Ln.cells w A l) {k : Nat} {x : Ln} (hx : l[k]? = some x) : ∃ g o, A = some ⟨g, o, none⟩ ∧ g < w.heap.size ∧ w.cell? ⟨g, o + k * 7, none⟩ = some (.string x.nm) ∧ w.cell? ⟨g, o + k * 7 + 1, none⟩ = some (.int .i64 x.lv) ∧ w.cell? ⟨g, o + k * 7 + 2, none⟩ = some (.int .i64 x.a1) ∧ w.cell? ⟨g, o + k * 7 + 3, none⟩ = some (.int .i64 x.a2) ∧ w.cell? ⟨g, o + k * 7 + 4, none⟩ = some (.int .i64 x.v1) ∧ w.cell? ⟨g, o + k * 7 + 5, none⟩ = some (.int .i64 x.v2) ∧ w.cell? ⟨g, o + k * 7 + 6, none⟩ = some (.int .i64 x.cl) := by
 obtain ⟨g, o, hA, hg, hc⟩ := h k x hx
 simp only [← Nat.add_assoc] at hc
 exact ⟨g, o, hA, hg, hc 0 _ rfl, hc 1 _ rfl, hc 2 _ rfl, hc 3 _ rfl, hc 4 _ rfl, hc 5 _ rfl, hc 6 _ rfl⟩
structure Tb where
  rad : Int
  bal : Int
  rst : Int
  gx : Int
  gy : Int
  drg : Int
  shf : Int
  tr : List Int
  ws : List Wl
  ars : List Ac
  ps : List Ps
  fs : List Fl
  zs : List Zn
  ss : List Sc
  las : List La
  rs : List Ra
  ds : List Dr
  lns : List Ln
structure TbA where
  tr : Option Addr
  trc : Nat
  ws : Option Addr
  wsc : Nat
  ars : Option Addr
  arsc : Nat
  ps : Option Addr
  psc : Nat
  fs : Option Addr
  fsc : Nat
  zs : Option Addr
  zsc : Nat
  ss : Option Addr
  ssc : Nat
  las : Option Addr
  lasc : Nat
  rs : Option Addr
  rsc : Nat
  ds : Option Addr
  dsc : Nat
  lns : Option Addr
  lnsc : Nat
def Tb.cells (t : Tb) (a : TbA) : List Value := [.int .i64 t.rad, .int .i64 t.bal, .int .i64 t.rst, .int .i64 t.gx, .int .i64 t.gy, .int .i64 t.drg, .int .i64 t.shf, .slice a.tr t.tr.length a.trc, .slice a.ws t.ws.length a.wsc, .slice a.ars t.ars.length a.arsc, .slice a.ps t.ps.length a.psc, .slice a.fs t.fs.length a.fsc, .slice a.zs t.zs.length a.zsc, .slice a.ss t.ss.length a.ssc, .slice a.las t.las.length a.lasc, .slice a.rs t.rs.length a.rsc, .slice a.ds t.ds.length a.dsc, .slice a.lns t.lns.length a.lnsc]
def Tb.v (t : Tb) (a : TbA) : Value := .agg #[.int .i64 t.rad, .int .i64 t.bal, .int .i64 t.rst, .int .i64 t.gx, .int .i64 t.gy, .int .i64 t.drg, .int .i64 t.shf, .slice a.tr t.tr.length a.trc, .slice a.ws t.ws.length a.wsc, .slice a.ars t.ars.length a.arsc, .slice a.ps t.ps.length a.psc, .slice a.fs t.fs.length a.fsc, .slice a.zs t.zs.length a.zsc, .slice a.ss t.ss.length a.ssc, .slice a.las t.las.length a.lasc, .slice a.rs t.rs.length a.rsc, .slice a.ds t.ds.length a.dsc, .slice a.lns t.lns.length a.lnsc]
structure TbAt (w : World) (t : Tb) (a : TbA) : Prop where
  tr : RowsAt 1 (fun x : Int => [Value.int .i64 x]) w a.tr t.tr
  ws : RowsAt 13 Wl.cells w a.ws t.ws
  ars : RowsAt 12 Ac.cells w a.ars t.ars
  ps : RowsAt 11 Ps.cells w a.ps t.ps
  fs : RowsAt 15 Fl.cells w a.fs t.fs
  zs : RowsAt 9 Zn.cells w a.zs t.zs
  ss : RowsAt 10 Sc.cells w a.ss t.ss
  las : RowsAt 6 La.cells w a.las t.las
  rs : RowsAt 8 Ra.cells w a.rs t.rs
  ds : RowsAt 5 Dr.cells w a.ds t.ds
  lns : RowsAt 7 Ln.cells w a.lns t.lns
theorem TbAt.below {w w1 : World} {t : Tb} {a : TbA} {B : Nat} (h : TbAt w t a) (hb : Below B w w1) (hB : w.heap.size ≤ B) : TbAt w1 t a := ⟨h.tr.below hb hB, h.ws.below hb hB, h.ars.below hb hB, h.ps.below hb hB, h.fs.below hb hB, h.zs.below hb hB, h.ss.below hb hB, h.las.below hb hB, h.rs.below hb hB, h.ds.below hb hB, h.lns.below hb hB⟩
section
variable {P : Program} {ops : Array Oper} {md : Region.Mode} {N : Nat} {W0 : World}
def SG (N : Nat) (W0 : World) (G : List (Nat × Obj)) (W : World) : Prop := Own N W0 W ∧ ∀ p ∈ G, N ≤ p.1 ∧ W.heap[p.1]? = some p.2
theorem SG.size {G : List (Nat × Obj)} {W : World} (h : SG N W0 G W) {p : Nat × Obj} (hp : p ∈ G) : p.1 < W.heap.size := by
 have h1 := (h.2 p hp).2
 exact (Array.getElem?_eq_some_iff.1 h1).1
theorem SG.below {G : List (Nat × Obj)} {W W' : World} (h : SG N W0 G W) (hb : Below W.heap.size W W') : SG N W0 G W' :=
 ⟨h.1.call hb, fun p hp => ⟨(h.2 p hp).1, by rw [hb.block _ (h.size hp)]; exact (h.2 p hp).2⟩⟩
theorem SG.alloc {G : List (Nat × Obj)} {W : World} (h : SG N W0 G W) (o : Obj) : SG N W0 ((W.heap.size, o) :: G) (W.alloc o) := by
 refine ⟨h.1.alloc o, fun p hp => ?_⟩
 rcases List.mem_cons.1 hp with rfl | hp
 · exact ⟨h.1.1, heap_alloc_new W o⟩
 · exact ⟨(h.2 p hp).1, by rw [Below.heap_alloc _ _ _ (h.size hp)]; exact (h.2 p hp).2⟩
def givesB (P : Program) (W : World) (v : Value) : Result Next → Prop
  | .ok (.value u) w' => u = v ∧ Below W.heap.size W w'
  | .ok .skip w' => v = undef ∧ Below W.heap.size W w'
  | .ok (.enter f args) w' => Calls P f args w' (fun e w'' => e = .returned v ∧ Below W.heap.size W w'')
  | _ => False
theorem givesB_value (W : World) (v u : Value) (w : World) : givesB P W v (.ok (.value u) w) = (u = v ∧ Below W.heap.size W w) := rfl
theorem givesB_skip (W : World) (v : Value) (w : World) : givesB P W v (.ok .skip w) = (v = undef ∧ Below W.heap.size W w) := rfl
theorem givesB_enter (W : World) (v : Value) (f : FuncId) (args : Array Value) (w : World) : givesB P W v (.ok (.enter f args) w) = Calls P f args w (fun e w'' => e = .returned v ∧ Below W.heap.size W w'') := rfl
def Cl (F : World → Prop) : Prop := ∀ W W', F W → Below W.heap.size W W' → F W'
theorem Cl.and {F F' : World → Prop} (h : Cl F) (h' : Cl F') : Cl (fun W => F W ∧ F' W) := fun W W' k hb => ⟨h W W' k.1 hb, h' W W' k.2 hb⟩
theorem Cl.tt : Cl (fun _ => True) := fun _ _ _ _ => trivial
def XPost (W : World) (K : Value → (World → Prop) → Prop) (e : Ending) (w'' : World) : Prop := ∃ (v : Value) (F : World → Prop), e = .returned v ∧ Below W.heap.size W w'' ∧ F w'' ∧ Cl F ∧ K v F
theorem XPost.mk {W w'' : World} {K : Value → (World → Prop) → Prop} (v : Value) (F : World → Prop) (hb : Below W.heap.size W w'') (hF : F w'') (hC : Cl F) (hK : K v F) : XPost W K (.returned v) w'' := ⟨v, F, rfl, hb, hF, hC, hK⟩
def givesX (P : Program) (W : World) (K : Value → (World → Prop) → Prop) : Result Next → Prop
  | .ok (.value u) w' => ∃ F : World → Prop, Below W.heap.size W w' ∧ F w' ∧ Cl F ∧ K u F
  | .ok .skip w' => ∃ F : World → Prop, Below W.heap.size W w' ∧ F w' ∧ Cl F ∧ K undef F
  | .ok (.enter f args) w' => Calls P f args w' (XPost W K)
  | _ => False
theorem givesX_enter (W : World) (K : Value → (World → Prop) → Prop) (f : FuncId) (args : Array Value) (w : World) : givesX P W K (.ok (.enter f args) w) = Calls P f args w (XPost W K) := rfl
theorem givesX_value (W : World) (K : Value → (World → Prop) → Prop) (u : Value) (w : World) : givesX P W K (.ok (.value u) w) = ∃ F : World → Prop, Below W.heap.size W w ∧ F w ∧ Cl F ∧ K u F := rfl
theorem givesX_mono {W : World} {K K' : Value → (World → Prop) → Prop} (h : ∀ v F, K v F → K' v F) : ∀ r, givesX P W K r → givesX P W K' r := by
 intro r hr
 match r, hr with
 | .ok (.value u) w', ⟨F, a, b, c, d⟩ => exact ⟨F, a, b, c, h _ _ d⟩
 | .ok .skip w', ⟨F, a, b, c, d⟩ => exact ⟨F, a, b, c, h _ _ d⟩
 | .ok (.enter f args) w', hr => exact Calls.mono hr fun e w'' ⟨v, F, e1, a, b, c, d⟩ => ⟨v, F, e1, a, b, c, h _ _ d⟩
def GivesH (P : Program) (N : Nat) (W0 : World) (o : Oper) (a : Act) (v : Value) : Prop := ∀ W, Own N W0 W → givesB P W v ((execOp a.eval o).run P W)
def YieldsH (P : Program) (ops : Array Oper) (N : Nat) (W0 : World) (o : Oper) (v : Value) (a : Act) : Prop :=
  (Region.wanted o (yielded ops a.tmps) = true ∧ GivesH P N W0 o a v) ∨ (Region.wanted o (yielded ops a.tmps) = false ∧ v = undef)
abbrev GK := (World → Prop) → List (Nat × Obj) → Act → Prop
def WPost (N : Nat) (W0 : World) (K : Value → (World → Prop) → List (Nat × Obj) → Prop) (e : Ending) (w : World) : Prop := ∃ (v : Value) (F : World → Prop) (G : List (Nat × Obj)), e = .returned v ∧ F w ∧ Cl F ∧ SG N W0 G w ∧ K v F G
theorem WPost.mk {N : Nat} {W0 w : World} {K : Value → (World → Prop) → List (Nat × Obj) → Prop} (v : Value) (F : World → Prop) (G : List (Nat × Obj)) (hF : F w) (hC : Cl F) (hS : SG N W0 G w) (hK : K v F G) : WPost N W0 K (.returned v) w := ⟨v, F, G, rfl, hF, hC, hS, hK⟩
def givesW (P : Program) (N : Nat) (W0 : World) (K : Value → (World → Prop) → List (Nat × Obj) → Prop) : Result Next → Prop
  | .ok (.value u) w' => WPost N W0 K (.returned u) w'
  | .ok .skip w' => WPost N W0 K (.returned undef) w'
  | .ok (.enter f args) w' => Calls P f args w' (WPost N W0 K)
  | _ => False
theorem givesW_value (K : Value → (World → Prop) → List (Nat × Obj) → Prop) (u : Value) (w : World) : givesW P N W0 K (.ok (.value u) w) = WPost N W0 K (.returned u) w := rfl
theorem givesW_skip (K : Value → (World → Prop) → List (Nat × Obj) → Prop) (w : World) : givesW P N W0 K (.ok .skip w) = WPost N W0 K (.returned undef) w := rfl
theorem givesW_enter (K : Value → (World → Prop) → List (Nat × Obj) → Prop) (f : FuncId) (args : Array Value) (w : World) : givesW P N W0 K (.ok (.enter f args) w) = Calls P f args w (WPost N W0 K) := rfl
theorem WPost.mono {K K' : Value → (World → Prop) → List (Nat × Obj) → Prop} (h : ∀ v F G, K v F G → K' v F G) {e : Ending} {w : World} (hh : WPost N W0 K e w) : WPost N W0 K' e w := by
 obtain ⟨v, F, G, a, b, c, d, k⟩ := hh; exact ⟨v, F, G, a, b, c, d, h _ _ _ k⟩
theorem givesW_mono {K K' : Value → (World → Prop) → List (Nat × Obj) → Prop} (h : ∀ v F G, K v F G → K' v F G) : ∀ r, givesW P N W0 K r → givesW P N W0 K' r := by
 intro r hr
 match r, hr with
 | .ok (.value u) w', hr => exact WPost.mono h hr
 | .ok .skip w', hr => exact WPost.mono h hr
 | .ok (.enter f args) w', hr => exact Calls.mono hr fun e w'' h' => WPost.mono h h'
def WildX (P : Program) (ops : Array Oper) (N : Nat) (W0 : World) (o : Oper) (a : Act) (K : GK) (F : World → Prop) (G : List (Nat × Obj)) : Prop :=
  Region.wanted o (yielded ops a.tmps) = true ∧ ∀ W, F W → SG N W0 G W → givesW P N W0 (fun v F' G' => K F' G' (a.put o.dst v)) ((execOp a.eval o).run P W)
def CallX (P : Program) (ops : Array Oper) (N : Nat) (W0 : World) (o : Oper) (a : Act) (K : GK) (F : World → Prop) (G : List (Nat × Obj)) : Prop :=
  Region.wanted o (yielded ops a.tmps) = true ∧ ∀ W, F W → SG N W0 G W → givesX P W (fun v F' => K (fun W => F W ∧ F' W) G (a.put o.dst v)) ((execOp a.eval o).run P W)
abbrev LK := Array Bool → GK
theorem YieldsH.of_same {o : Oper} {v : Value} {a a' : Act} (hy : YieldsH P ops N W0 o v a) (he : execOp a'.eval o = execOp a.eval o)
  (hw : Region.wanted o (yielded ops a'.tmps) = Region.wanted o (yielded ops a.tmps)) : YieldsH P ops N W0 o v a' := by
 unfold YieldsH GivesH at *; rw [he, hw]; exact hy
theorem SG.weak {G : List (Nat × Obj)} {p : Nat × Obj} {W : World} (h : SG N W0 (p :: G) W) : SG N W0 G W := ⟨h.1, fun q hq => h.2 q (by simp [hq])⟩
end
attribute [go_sem] givesB_value givesB_skip givesB_enter givesX_value givesX_enter givesW_value givesW_skip givesW_enter
section
variable {P : Program} {ops : Array Oper} {md : Region.Mode} {N : Nat} {W0 : World}
theorem SG.same {G G' : List (Nat × Obj)} {W : World} (h : ∀ p, p ∈ G ↔ p ∈ G') (hS : SG N W0 G W) : SG N W0 G' W := ⟨hS.1, fun p hp => hS.2 p ((h p).2 hp)⟩
theorem same_cons {G G' : List (Nat × Obj)} (h : ∀ p, p ∈ G ↔ p ∈ G') (q : Nat × Obj) : ∀ p, p ∈ q :: G ↔ p ∈ q :: G' := fun p => by simp [h p]
def LInv (L : GK) : Prop := ∀ F G G' a, (∀ p, p ∈ G ↔ p ∈ G') → L F G a → L F G' a
end
section
variable {P : Program} {ops : Array Oper} {md : Region.Mode} {N : Nat} {W0 : World}
def waitsJ (md : Region.Mode) (ops : Array Oper) : Nat → Nat → Nat → Bool
  | 0, _, _ => false
  | f + 1, t, i => match ops[t]? with
    | some o => (o.after.any fun e => Region.binds md e && e.on == i) || o.after.any fun e => Region.binds md e && waitsJ md ops f e.on i
    | none => false
def DC (md : Region.Mode) (ops : Array Oper) (listed : Array Bool) : Prop := ∀ j o, ops[j]? = some o → listed.getD j false = true → ∀ e ∈ o.after, Region.binds md e = true → listed.getD e.on false = true
def dcB (md : Region.Mode) (ops : Array Oper) (listed : Array Bool) : Bool := (List.range ops.size).all fun j => match ops[j]? with
  | some o => !listed.getD j false || o.after.all fun e => !Region.binds md e || listed.getD e.on false
  | none => true
theorem dcB_spec {listed : Array Bool} (h : dcB md ops listed = true) : DC md ops listed := fun j o hj hl e he hb => by
 simp only [dcB, List.all_eq_true, List.mem_range] at h
 have h1 := h j (Array.getElem?_eq_some_iff.1 hj).1
 simp only [hj, hl, Bool.not_true, Bool.false_or] at h1
 have h2 := Array.all_eq_true'.1 h1 e he
 simpa [hb] using h2
theorem getD_set_mono {listed : Array Bool} {i k : Nat} (h : listed.getD k false = true) : (listed.setIfInBounds i true).getD k false = true := by
 simp only [Array.getD_eq_getD_getElem?, Array.getElem?_setIfInBounds] at *
 split
 · split <;> simp_all
 · exact h
theorem DC.set {listed : Array Bool} {i : Nat} (h : DC md ops listed) (hr : i ∈ Region.ready md ops listed) : DC md ops (listed.setIfInBounds i true) := fun j o hj hl e he hb => by
 by_cases hji : j = i
 · subst hji
   obtain ⟨_, o', ho', hall⟩ := mem_ready.1 hr
   rw [hj] at ho'; injection ho' with ho'; subst ho'
   exact getD_set_mono (hall e he hb)
 · refine getD_set_mono (h j o hj ?_ e he hb)
   simp only [Array.getD_eq_getD_getElem?, Array.getElem?_setIfInBounds] at *
   rw [if_neg (fun e => hji e.symm)] at hl
   exact hl
theorem waits_spec {listed : Array Bool} (hdc : DC md ops listed) : ∀ (f t i : Nat), waitsJ md ops f t i = true → (∀ o, ops[t]? = some o → ∀ e ∈ o.after, Region.binds md e = true → listed.getD e.on false = true) → listed.getD i false = true
 | 0, t, i, h, _ => by simp [waitsJ] at h
 | f + 1, t, i, h, hd => by
  unfold waitsJ at h
  split at h
  · rename_i o ho
    rw [Bool.or_eq_true] at h
    rcases h with h | h
    · obtain ⟨e, he, hb⟩ := Array.any_eq_true'.1 h
      simp only [Bool.and_eq_true, beq_iff_eq] at hb
      have := hd o ho e he hb.1
      rwa [hb.2] at this
    · obtain ⟨e, he, hb⟩ := Array.any_eq_true'.1 h
      simp only [Bool.and_eq_true] at hb
      exact waits_spec hdc f e.on i hb.2 (fun o' ho' e' he' hb' => hdc e.on o' ho' (hd o ho e he hb.1) e' he' hb')
  · cases h
def tailBJ (md : Region.Mode) (ops : Array Oper) (n : List Nat) : Bool :=
  Region.noSelect ops && (List.range ops.size).all fun t => !n.contains t || match ops[t]? with
    | some _ => (List.range ops.size).all fun i => n.contains i || waitsJ md ops ops.size t i
    | none => true
theorem tailB_specJ {n : List Nat} {t i : Nat} {listed : Array Bool} (h : tailBJ md ops n = true) (hdc : DC md ops listed) (ht : t ∈ Region.ready md ops listed) (hs : i < ops.size) (hi : n.contains i = false) (hun : listed.getD i true = false) : n.contains t = false := by
 cases hc : n.contains t
 · rfl
 · exfalso
   obtain ⟨_, o, ho, hall⟩ := mem_ready.1 ht
   simp only [tailBJ, Bool.and_eq_true, List.all_eq_true, List.mem_range] at h
   have h1 := h.2 t (Array.getElem?_eq_some_iff.1 ho).1
   simp only [ho, hc, Bool.not_true, Bool.false_or, List.all_eq_true, List.mem_range] at h1
   have h2 := h1 i hs
   rw [hi, Bool.false_or] at h2
   have h3 := waits_spec hdc _ _ _ h2 (fun o' ho' e he hb => by rw [ho] at ho'; injection ho' with ho'; subst ho'; exact hall e he hb)
   rw [getD_both hun] at h3
   cases h3
def seqJ (md : Region.Mode) (ops : Array Oper) : List Nat → Array Bool → Bool
  | [], listed => (Region.ready md ops listed).isEmpty
  | k :: js, listed => decide (Region.ready md ops listed = [k]) && seqJ md ops js (listed.setIfInBounds k true)
theorem wpAny_of_seqJ {Q' : Exit → Act → World → Prop} : ∀ (js : List Nat) (listed : Array Bool) (a : Act) (w : World), (∀ j ∈ js, j < ops.size) →
  seqJ md ops js listed = true → wpList P ops Q' (js.filterMap (fun i => ops[i]?)) a w → wpAny P md ops Q' js.length listed a w
 | [], listed, a, w, _, hB, h => ⟨by simpa [seqJ] using hB, h⟩
 | k :: js, listed, a, w, hl, hB, h => by
  have hk : k < ops.size := hl k (by simp)
  have h0 : ops[k]? = some ops[k] := Array.getElem?_eq_some_iff.2 ⟨hk, rfl⟩
  simp only [seqJ, Bool.and_eq_true, decide_eq_true_eq] at hB
  refine ⟨fun h1 => (by rw [hB.1] at h1; cases h1), fun i hi => ?_⟩
  rw [hB.1] at hi
  have hik : i = k := by simpa using hi
  subst hik
  rw [List.filterMap_cons, h0] at h
  have hw : wpOp P ops Q' i (wpList P ops Q' (js.filterMap (fun i => ops[i]?))) a w := by unfold wpOp; simp only [h0]; exact h
  exact wpOp_mono (fun a' w' h' => wpAny_of_seqJ js _ a' w' (fun j hj => hl j (by simp [hj])) hB.2 h') hw
theorem seqB_memJ {n : List Nat} {listed : Array Bool} (h : seqJ md ops n listed = true) : ∀ j ∈ Region.ready md ops listed, n.contains j = true := by
 cases n with
 | nil => intro j hj; simp only [seqJ, List.isEmpty_iff] at h; rw [h] at hj; cases hj
 | cons k js =>
  intro j hj
  simp only [seqJ, Bool.and_eq_true, decide_eq_true_eq] at h
  rw [h.1] at hj
  have : j = k := by simpa using hj
  subst this
  simp
def isFresh (o : Oper) : Bool := match o.op with | .alloc _ => o.guard.isNone | .buildSlice _ _ _ => o.guard.isNone | _ => false
def freshV (o : Oper) (g : Nat) : Value := match o.op with | .buildSlice _ n _ => .slice (some ⟨g, 0, none⟩) n n | _ => .pointer (some ⟨g, 0, none⟩)
def FreshQ (P : Program) (ops : Array Oper) (o : Oper) (a : Act) (ob : Obj) : Prop :=
  Region.wanted o (yielded ops a.tmps) = true ∧ ∀ W, (execOp a.eval o).run P W = .ok (.value (freshV o W.heap.size)) (W.alloc ob)
theorem freshQ_ob {o : Oper} {a a' : Act} {ob ob' : Obj} (h : FreshQ P ops o a ob) (h' : FreshQ P ops o a' ob') (he : execOp a'.eval o = execOp a.eval o) (W : World) : ob = ob' := by
 have h1 := h.2 W
 have h2 := h'.2 W
 rw [he, h1] at h2
 have h3 : W.alloc ob = W.alloc ob' := by injection h2
 have h4 := heap_alloc_new W ob
 rw [h3, heap_alloc_new W ob'] at h4
 injection h4 with h4
 exact h4.symm
def wfQ (P : Program) (ops : Array Oper) (N : Nat) (W0 : World) (i : Nat) (K : GK) (F : World → Prop) (G : List (Nat × Obj)) (a : Act) : Prop :=
  match ops[i]? with
  | none => False
  | some o => if isFresh o = true then ∃ ob, FreshQ P ops o a ob ∧ ∀ g, N ≤ g → (∀ p ∈ G, p.1 ≠ g) → K F ((g, ob) :: G) (a.put o.dst (freshV o g))
      else (∃ v, YieldsH P ops N W0 o v a ∧ K F G (a.put o.dst v)) ∨
      WildX P ops N W0 o a K F G ∨
      CallX P ops N W0 o a K F G
def Live (N : Nat) (W0 : World) (F : World → Prop) (G : List (Nat × Obj)) : Prop := Cl F ∧ ∃ W, F W ∧ SG N W0 G W
theorem Live.weak {F : World → Prop} {G : List (Nat × Obj)} {p : Nat × Obj} (h : Live N W0 F (p :: G)) : Live N W0 F G := ⟨h.1, h.2.choose, h.2.choose_spec.1, h.2.choose_spec.2.weak⟩
theorem Live.same {F : World → Prop} {G G' : List (Nat × Obj)} (h : ∀ p, p ∈ G ↔ p ∈ G') (hl : Live N W0 F G) : Live N W0 F G' := ⟨hl.1, hl.2.choose, hl.2.choose_spec.1, hl.2.choose_spec.2.same h⟩
theorem Live.grow {F : World → Prop} {G : List (Nat × Obj)} (h : Live N W0 F G) (ob : Obj) : ∃ g, N ≤ g ∧ (∀ p ∈ G, p.1 ≠ g) ∧ Live N W0 F ((g, ob) :: G) := by
 obtain ⟨hC, W, hF, hS⟩ := h
 exact ⟨W.heap.size, hS.1.1, fun p hp e => by have := hS.size hp; omega, hC, W.alloc ob, hC _ _ hF ((Below.refl _ _).alloc (Nat.le_refl _) _), hS.alloc ob⟩
theorem givesX_live {W : World} {K : Value → (World → Prop) → Prop} : ∀ {r : Result Next}, givesX P W K r → ∃ v F' w'', Below W.heap.size W w'' ∧ F' w'' ∧ Cl F' ∧ K v F' := by
 intro r hr
 match r, hr with
 | .ok (.value u) w', ⟨F, a, b, c, d⟩ => exact ⟨_, _, _, a, b, c, d⟩
 | .ok .skip w', ⟨F, a, b, c, d⟩ => exact ⟨_, _, _, a, b, c, d⟩
 | .ok (.enter f args) w', hr =>
  obtain ⟨e, w'', fr, ⟨v, F, e1, a, b, c, d⟩, _⟩ := hr []
  exact ⟨_, _, _, a, b, c, d⟩
def wpQ (P : Program) (md : Region.Mode) (ops : Array Oper) (N : Nat) (W0 : World) (n : List Nat) (L : GK) : Nat → LK
  | 0, listed, F, G, a => Live N W0 F G → seqJ md ops n listed = true ∧ L F G a
  | f + 1, listed, F, G, a => Live N W0 F G → Region.ready md ops listed ≠ [] ∧ ∀ i ∈ Region.ready md ops listed, wfQ P ops N W0 i (wpQ P md ops N W0 n L f (listed.setIfInBounds i true)) F G a
theorem wpQ_live {n : List Nat} {L : GK} {f : Nat} {listed : Array Bool} {F : World → Prop} {G : List (Nat × Obj)} {a : Act} (h : Live N W0 F G → wpQ P md ops N W0 n L f listed F G a) : wpQ P md ops N W0 n L f listed F G a := by
 cases f
 · exact fun hl => h hl hl
 · exact fun hl => h hl hl
theorem wfQ_mono {i : Nat} {a : Act} {F : World → Prop} {G : List (Nat × Obj)} {K K' : GK} (h : ∀ F G a, K F G a → K' F G a) (hh : wfQ P ops N W0 i K F G a) : wfQ P ops N W0 i K' F G a := by
 unfold wfQ at *
 split
 · rename_i ho; simp only [ho] at hh
 · rename_i o ho
   simp only [ho] at hh
   split at hh
   · rename_i ha
     rw [if_pos ha]
     obtain ⟨ob, hf, hk⟩ := hh
     exact ⟨ob, hf, fun g hN hg => h _ _ _ (hk g hN hg)⟩
   · rename_i ha
     rw [if_neg ha]
     rcases hh with ⟨v, hy, hk⟩ | ⟨hw, hx⟩ | ⟨hw, hx⟩
     · exact .inl ⟨v, hy, h _ _ _ hk⟩
     · exact .inr (.inl ⟨hw, fun W hF hS => givesW_mono (fun v F' G' hk => h _ _ _ hk) _ (hx W hF hS)⟩)
     · exact .inr (.inr ⟨hw, fun W hF hS => givesX_mono (fun v F' hk => h _ _ _ hk) _ (hx W hF hS)⟩)
theorem wfQ_put {j : Nat} {oi oj : Oper} {v : Value} (hj : ops[j]? = some oj) (hap : oi.apart ops oj = true)
  (hsi : ∀ cs b, oi.op ≠ .select cs b) (hsj : ∀ cs b, oj.op ≠ .select cs b) {K : GK} {F : World → Prop} {G : List (Nat × Obj)} {a : Act}
  (hy : YieldsH P ops N W0 oi v a) (h : wfQ P ops N W0 j K F G (a.put oi.dst v)) :
  wfQ P ops N W0 j (fun F' G' a' => YieldsH P ops N W0 oi v a' ∧ K F' G' (a'.put oi.dst v)) F G a := by
 obtain ⟨h1, h2, h3⟩ := Oper.apart_spec hap
 have keep : ∀ u, YieldsH P ops N W0 oi v (a.put oj.dst u) := fun u => hy.of_same (execOp_put oi hsi a oj.dst u h3) (wanted_put oi a oj.dst u h3)
 have e1 := execOp_put oj hsj a oi.dst v h1
 have e2 := wanted_put oj a oi.dst v h1
 unfold wfQ at *
 simp only [hj] at *
 split at h
 · rename_i ha
   rw [if_pos ha]
   obtain ⟨ob, hf, hk⟩ := h
   refine ⟨ob, ?_, fun g hN hg => ⟨keep _, by rw [← Act.put_comm a v _ h2]; exact hk g hN hg⟩⟩
   unfold FreshQ at *; rw [e1, e2] at hf; exact hf
 · rename_i ha
   rw [if_neg ha]
   rcases h with ⟨u, hu, hk⟩ | ⟨hw, hx⟩ | ⟨hw, hx⟩
   · exact .inl ⟨u, hu.of_same e1.symm e2.symm, keep u, by rw [← Act.put_comm a v u h2]; exact hk⟩
   · refine .inr (.inl ⟨by rw [← e2]; exact hw, fun W hF hS => ?_⟩)
     have := hx W hF hS
     rw [e1] at this
     exact givesW_mono (fun u F' G' hk => ⟨keep u, by rw [← Act.put_comm a v u h2]; exact hk⟩) _ this
   · refine .inr (.inr ⟨by rw [← e2]; exact hw, fun W hF hS => ?_⟩)
     have := hx W hF hS
     rw [e1] at this
     exact givesX_mono (fun u F' hk => ⟨keep u, by rw [← Act.put_comm a v u h2]; exact hk⟩) _ this
theorem wfQ_same {i : Nat} {a : Act} {F : World → Prop} {G G' : List (Nat × Obj)} {K : GK} (hK : LInv K) (h : ∀ p, p ∈ G ↔ p ∈ G') (hh : wfQ P ops N W0 i K F G a) : wfQ P ops N W0 i K F G' a := by
 unfold wfQ at *
 split
 · rename_i ho; simp only [ho] at hh
 · rename_i o ho
   simp only [ho] at hh
   split at hh
   · rename_i ha
     rw [if_pos ha]
     obtain ⟨ob, hf, hk⟩ := hh
     exact ⟨ob, hf, fun g hN hg => hK _ _ _ _ (same_cons h _) (hk g hN (fun p hp => hg p ((h p).1 hp)))⟩
   · rename_i ha
     rw [if_neg ha]
     rcases hh with ⟨v, hy, hk⟩ | ⟨hw, hx⟩ | ⟨hw, hx⟩
     · exact .inl ⟨v, hy, hK _ _ _ _ h hk⟩
     · exact .inr (.inl ⟨hw, fun W hF hS => hx W hF (hS.same (fun p => (h p).symm))⟩)
     · exact .inr (.inr ⟨hw, fun W hF hS => givesX_mono (fun v F' hk => hK _ _ _ _ h hk) _ (hx W hF (hS.same (fun p => (h p).symm)))⟩)
theorem wpQ_same {n : List Nat} {L : GK} (hL : LInv L) : ∀ (f : Nat) (listed : Array Bool), LInv (wpQ P md ops N W0 n L f listed)
 | 0, listed => fun F G G' a h hh hl => ⟨(hh (hl.same (fun p => (h p).symm))).1, hL _ _ _ _ h (hh (hl.same (fun p => (h p).symm))).2⟩
 | f + 1, listed => fun F G G' a h hh hl => ⟨(hh (hl.same (fun p => (h p).symm))).1, fun i hi => wfQ_same (wpQ_same hL f _) h ((hh (hl.same (fun p => (h p).symm))).2 i hi)⟩
theorem wpQ_first {i : Nat} {n : List Nat} {oi : Oper} {v : Value} {L : GK} (hT : tailBJ md ops n = true) (hin : n.contains i = false) (hi : ops[i]? = some oi) (ha : isFresh oi = false) :
  ∀ (f : Nat) (listed : Array Bool) (F : World → Prop) (G : List (Nat × Obj)) (a : Act),
   DC md ops listed → (∀ j oj, ops[j]? = some oj → j ≠ i → listed.getD j true = false → (∀ e ∈ oj.after, Region.binds md e = true → e.on ≠ i) → oi.apart ops oj = true) →
   i ∈ Region.ready md ops listed → YieldsH P ops N W0 oi v a →
   wpQ P md ops N W0 n L f (listed.setIfInBounds i true) F G (a.put oi.dst v) → wpQ P md ops N W0 n L (f + 1) listed F G a := by
 have hsel := Region.noSelect_spec (by have := hT; unfold tailBJ at this; rw [Bool.and_eq_true] at this; exact this.1)
 have base : ∀ (F : World → Prop) (G : List (Nat × Obj)) (a : Act), YieldsH P ops N W0 oi v a → ∀ K : GK, K F G (a.put oi.dst v) → wfQ P ops N W0 i K F G a := by
  intro F G a hy K H
  unfold wfQ
  simp only [hi]
  rw [if_neg (by rw [ha]; exact Bool.false_ne_true)]
  exact .inl ⟨v, hy, H⟩
 intro f
 induction f with
 | zero =>
  intro listed F G a hdc hfree hr hy H hl
  have hun := (mem_ready.1 hr).1
  refine ⟨fun h => (by rw [h] at hr; cases hr), fun j hj => ?_⟩
  by_cases hji : j = i
  · subst hji
    exact base _ _ _ hy _ H
  · have h1 := seqB_memJ (H hl).1 j (ready_mono hj hji)
    have h2 := tailB_specJ hT hdc hj (Array.getElem?_eq_some_iff.1 hi).1 hin hun
    rw [h1] at h2; cases h2
 | succ f ih =>
  intro listed F G a hdc hfree hr hy H hl
  have hun := (mem_ready.1 hr).1
  refine ⟨fun h => (by rw [h] at hr; cases hr), fun j hj => ?_⟩
  by_cases hji : j = i
  · subst hji
    exact base _ _ _ hy _ H
  · have h1 := (H hl).2 j (ready_mono hj hji)
    obtain ⟨hjun, oj, hoj, hall⟩ := mem_ready.1 hj
    have hnot : ∀ e ∈ oj.after, Region.binds md e = true → e.on ≠ i := fun e he hb heq => by
     have h1 := hall e he hb
     rw [heq, getD_both hun] at h1
     cases h1
    have h2 := wfQ_put hoj (hfree j oj hoj hji hjun hnot) (fun cs b => hsel i oi cs b hi) (fun cs b => hsel j oj cs b hoj) hy h1
    have hfree' : ∀ k ok, ops[k]? = some ok → k ≠ i → (listed.setIfInBounds j true).getD k true = false →
      (∀ e ∈ ok.after, Region.binds md e = true → e.on ≠ i) → oi.apart ops ok = true := fun k ok hk hki hun hno => by
     refine hfree k ok hk hki ?_ hno
     by_cases hjk : j = k
     · subst hjk; exact hjun
     · rw [getD_set_ne true hjk] at hun; exact hun
    refine wfQ_mono (fun F' G' a' h3 => ih (listed.setIfInBounds j true) F' G' a' (hdc.set hj) hfree' (ready_mono hr (Ne.symm hji)) h3.1 ?_) h2
    rw [Array.setIfInBounds_comm _ _ hji]
    exact h3.2
def onlyQ (md : Region.Mode) (ops : Array Oper) (i : Nat) : Nat → Array Bool → Bool
  | 0, listed => decide (Region.ready md ops listed = [i])
  | f + 1, listed => (Region.ready md ops listed).contains i && (Region.ready md ops listed).all fun j => j == i || match ops[i]?, ops[j]? with
      | some oi, some oj => isFresh oj && oi.apart ops oj && onlyQ md ops i f (listed.setIfInBounds j true)
      | _, _ => false
theorem FreshQ.back {oi oj : Oper} {a : Act} {v : Value} {ob : Obj} (hsj : ∀ cs b, oj.op ≠ .select cs b) (hap : oi.apart ops oj = true) (h : FreshQ P ops oj (a.put oi.dst v) ob) : FreshQ P ops oj a ob := by
 obtain ⟨p1, p2, p3⟩ := Oper.apart_spec hap
 unfold FreshQ at *
 rw [execOp_put oj hsj a oi.dst v p1, wanted_put oj a oi.dst v p1] at h
 exact h
theorem wpQ_callfirst {i : Nat} {n : List Nat} {oi : Oper} {L : GK} (hsel : ∀ (j : Nat) (o : Oper) cs b, ops[j]? = some o → o.op ≠ .select cs b) (hi : ops[i]? = some oi) (hai : isFresh oi = false) :
  ∀ (f : Nat) (listed : Array Bool) (F : World → Prop) (G : List (Nat × Obj)) (a : Act), onlyQ md ops i f listed = true →
   CallX P ops N W0 oi a (wpQ P md ops N W0 n L f (listed.setIfInBounds i true)) F G →
   wpQ P md ops N W0 n L (f + 1) listed F G a := by
 intro f
 induction f with
 | zero =>
  intro listed F G a hB hx hl
  simp only [onlyQ, decide_eq_true_eq] at hB
  refine ⟨fun h => (by rw [h] at hB; cases hB), fun j hj => ?_⟩
  rw [hB] at hj
  obtain rfl : j = i := by simpa using hj
  unfold wfQ
  simp only [hi]
  rw [if_neg (by rw [hai]; exact Bool.false_ne_true)]
  exact .inr (.inr hx)
 | succ f ih =>
  intro listed F G a hB hx hl
  simp only [onlyQ, Bool.and_eq_true, List.all_eq_true] at hB
  obtain ⟨hr, hall⟩ := hB
  have hr : i ∈ Region.ready md ops listed := by simpa using hr
  refine ⟨fun h => (by rw [h] at hr; cases hr), fun j hj => ?_⟩
  by_cases hji : j = i
  · subst hji
    unfold wfQ
    simp only [hi]
    rw [if_neg (by rw [hai]; exact Bool.false_ne_true)]
    exact .inr (.inr hx)
  · have h1 := hall j hj
    obtain ⟨hjun, oj, hoj, _⟩ := mem_ready.1 hj
    simp only [hi, hoj, Bool.or_eq_true, beq_iff_eq, hji, false_or, Bool.and_eq_true] at h1
    obtain ⟨⟨haj, hap⟩, hon⟩ := h1
    obtain ⟨p1, p2, p3⟩ := Oper.apart_spec hap
    have hsj := fun cs b => hsel j oj cs b hoj
    obtain ⟨ob, hfr⟩ : ∃ ob, FreshQ P ops oj a ob := by
     obtain ⟨hC, W, hF, hS⟩ := hl
     obtain ⟨v, F', w'', hb, hF', hC', hk⟩ := givesX_live (hx.2 W hF hS)
     have h3 := (hk ⟨hC.and hC', w'', ⟨hC _ _ hF hb, hF'⟩, hS.below hb⟩).2 j (ready_mono hj hji)
     unfold wfQ at h3
     simp only [hoj] at h3
     rw [if_pos haj] at h3
     obtain ⟨ob', hf', _⟩ := h3
     exact ⟨ob', hf'.back hsj hap⟩
    unfold wfQ
    simp only [hoj]
    rw [if_pos haj]
    refine ⟨ob, hfr, fun g hN hG => ih (listed.setIfInBounds j true) F ((g, ob) :: G) _ hon ⟨?_, fun W hF hS => ?_⟩⟩
    · rw [wanted_put oi a oj.dst _ p3]; exact hx.1
    · have h2 := hx.2 W hF hS.weak
      rw [execOp_put oi (fun cs b => hsel i oi cs b hi) a oj.dst _ p3]
      refine givesX_mono (fun v F' hk => wpQ_live fun hl' => ?_) _ h2
      have h3 := (hk hl'.weak).2 j (ready_mono hj hji)
      unfold wfQ at h3
      simp only [hoj] at h3
      rw [if_pos haj] at h3
      obtain ⟨ob', hf', hk'⟩ := h3
      have hobe : ob = ob' := freshQ_ob hfr (hf'.back hsj hap) rfl W
      subst hobe
      have h4 := hk' g hN hG
      rw [Array.setIfInBounds_comm _ _ (Ne.symm hji), Act.put_comm a _ v (fun d hd => fun h => p2 d h hd)] at *
      exact h4
theorem wpQ_freshfirst {i : Nat} {n : List Nat} {oi : Oper} {L : GK} (hL : LInv L) (hsel : ∀ (j : Nat) (o : Oper) cs b, ops[j]? = some o → o.op ≠ .select cs b) (hi : ops[i]? = some oi) (hai : isFresh oi = true) (ob : Obj) :
  ∀ (f : Nat) (listed : Array Bool) (F : World → Prop) (G : List (Nat × Obj)) (a : Act), onlyQ md ops i f listed = true → FreshQ P ops oi a ob →
   (∀ g, N ≤ g → (∀ p ∈ G, p.1 ≠ g) → wpQ P md ops N W0 n L f (listed.setIfInBounds i true) F ((g, ob) :: G) (a.put oi.dst (freshV oi g))) →
   wpQ P md ops N W0 n L (f + 1) listed F G a := by
 have here : ∀ (K : GK) (F : World → Prop) (G : List (Nat × Obj)) (a : Act), FreshQ P ops oi a ob → (∀ g, N ≤ g → (∀ p ∈ G, p.1 ≠ g) → K F ((g, ob) :: G) (a.put oi.dst (freshV oi g))) → wfQ P ops N W0 i K F G a := by
  intro K F G a hfr hk
  unfold wfQ
  simp only [hi]
  rw [if_pos hai]
  exact ⟨ob, hfr, hk⟩
 intro f
 induction f with
 | zero =>
  intro listed F G a hB hfr hx hl
  simp only [onlyQ, decide_eq_true_eq] at hB
  refine ⟨fun h => (by rw [h] at hB; cases hB), fun j hj => ?_⟩
  rw [hB] at hj
  obtain rfl : j = i := by simpa using hj
  exact here _ _ _ _ hfr hx
 | succ f ih =>
  intro listed F G a hB hfr hx hl
  simp only [onlyQ, Bool.and_eq_true, List.all_eq_true] at hB
  obtain ⟨hr, hall⟩ := hB
  have hr : i ∈ Region.ready md ops listed := by simpa using hr
  refine ⟨fun h => (by rw [h] at hr; cases hr), fun j hj => ?_⟩
  by_cases hji : j = i
  · subst hji; exact here _ _ _ _ hfr hx
  · have h1 := hall j hj
    obtain ⟨hjun, oj, hoj, _⟩ := mem_ready.1 hj
    simp only [hi, hoj, Bool.or_eq_true, beq_iff_eq, hji, false_or, Bool.and_eq_true] at h1
    obtain ⟨⟨haj, hap⟩, hon⟩ := h1
    obtain ⟨p1, p2, p3⟩ := Oper.apart_spec hap
    have hsi := fun cs b => hsel i oi cs b hi
    have hsj := fun cs b => hsel j oj cs b hoj
    have hgo : ∀ g, N ≤ g → (∀ p ∈ G, p.1 ≠ g) → Live N W0 F ((g, ob) :: G) → ∃ obj, FreshQ P ops oj a obj ∧ ∀ g', N ≤ g' → (∀ p ∈ (g, ob) :: G, p.1 ≠ g') → wpQ P md ops N W0 n L f ((listed.setIfInBounds i true).setIfInBounds j true) F ((g', obj) :: (g, ob) :: G) ((a.put oi.dst (freshV oi g)).put oj.dst (freshV oj g')) := by
     intro g hN hG hl'
     have h3 := (hx g hN hG hl').2 j (ready_mono hj hji)
     unfold wfQ at h3
     simp only [hoj] at h3
     rw [if_pos haj] at h3
     obtain ⟨ob', hf', hk'⟩ := h3
     exact ⟨ob', hf'.back hsj hap, hk'⟩
    obtain ⟨obj, hfrj⟩ : ∃ obj, FreshQ P ops oj a obj := by
     obtain ⟨g, hN, hG, hl'⟩ := hl.grow ob
     obtain ⟨obj, h, _⟩ := hgo g hN hG hl'
     exact ⟨obj, h⟩
    unfold wfQ
    simp only [hoj]
    rw [if_pos haj]
    refine ⟨obj, hfrj, fun g' hN' hG' => ih (listed.setIfInBounds j true) F ((g', obj) :: G) _ hon ?_ (fun g hN hG => wpQ_live fun hl' => ?_)⟩
    · unfold FreshQ
      rw [execOp_put oi hsi a oj.dst _ p3, wanted_put oi a oj.dst _ p3]
      exact hfr
    · have hne : g' ≠ g := hG (g', obj) (by simp)
      obtain ⟨ob', hf', hk'⟩ := hgo g hN (fun p hp => hG p (by simp [hp])) ((hl'.same (G' := (g', obj) :: (g, ob) :: G) (fun p => by simp only [List.mem_cons]; constructor <;> (rintro (h | h | h) <;> simp [h]))).weak)
      have hobe : obj = ob' := freshQ_ob hfrj hf' rfl W0
      subst hobe
      have h4 := hk' g' hN' (fun p hp => by
       rcases List.mem_cons.1 hp with rfl | hp
       · exact Ne.symm hne
       · exact hG' p hp)
      rw [Array.setIfInBounds_comm _ _ (Ne.symm hji), Act.put_comm a _ _ p2] at h4
      exact wpQ_same hL f _ _ _ _ _ (fun p => by simp only [List.mem_cons]; constructor <;> (rintro (h | h | h) <;> simp [h])) h4
theorem wpOp_of_wfQ {i : Nat} {a : Act} {w : World} {F : World → Prop} {G : List (Nat × Obj)} {K : GK} {K' : Act → World → Prop} {Q' : Exit → Act → World → Prop} (hF : F w) (hC : Cl F) (hS : SG N W0 G w)
  (h : ∀ F G a w, Cl F → F w → SG N W0 G w → K F G a → K' a w) (hh : wfQ P ops N W0 i K F G a) : wpOp P ops Q' i K' a w := by
 unfold wfQ at hh
 unfold wpOp
 split
 · rename_i ho; simp only [ho] at hh
 · rename_i o ho
   simp only [ho] at hh
   split at hh
   · obtain ⟨ob, ⟨hw, hf⟩, hk⟩ := hh
     rw [if_pos hw]
     refine .inl ?_
     unfold Oper.wp
     rw [hf w]
     exact h _ _ _ _ hC (hC _ _ hF ((Below.refl _ _).alloc (Nat.le_refl _) _)) (hS.alloc ob) (hk _ hS.1.1 (fun p hp e => by have := hS.size hp; omega))
   · rcases hh with ⟨v, hy, hk⟩ | ⟨hw, hx⟩ | ⟨hw, hx⟩
     · rcases hy with ⟨hw, hg⟩ | ⟨hw, rfl⟩
       · rw [if_pos hw]
         refine .inl ?_
         have hg := hg w hS.1
         unfold Oper.wp
         generalize (execOp a.eval o).run P w = r at *
         cases r with
         | ok nx w' =>
          cases nx <;> simp only [givesB, Oper.upon] at hg ⊢
          case value u => obtain ⟨rfl, h2⟩ := hg; exact h _ _ _ _ hC (hC _ _ hF h2) (hS.below h2) hk
          case skip => obtain ⟨rfl, h2⟩ := hg; exact h _ _ _ _ hC (hC _ _ hF h2) (hS.below h2) hk
          case enter f args => exact hg.mono fun e w'' ⟨he, hw⟩ => by subst he; exact h _ _ _ _ hC (hC _ _ hF hw) (hS.below hw) hk
         | halt x w' => simp only [givesB] at hg
       · rw [if_neg (by simp [hw])]
         exact h _ _ _ _ hC hF hS hk
     · rw [if_pos hw]
       refine .inl ?_
       have hg := hx w hF hS
       unfold Oper.wp
       generalize (execOp a.eval o).run P w = r at *
       cases r with
       | ok nx w' =>
        cases nx <;> simp only [givesW, Oper.upon] at hg ⊢
        case value u => obtain ⟨v, F', G', e1, hF', hC', hS', hk⟩ := hg; injection e1 with e1; subst e1; exact h _ _ _ _ hC' hF' hS' hk
        case skip => obtain ⟨v, F', G', e1, hF', hC', hS', hk⟩ := hg; injection e1 with e1; subst e1; exact h _ _ _ _ hC' hF' hS' hk
        case enter f args => exact hg.mono fun e w'' ⟨v, F', G', e1, hF', hC', hS', hk⟩ => by subst e1; exact h _ _ _ _ hC' hF' hS' hk
       | halt x w' => simp only [givesW] at hg
     · rw [if_pos hw]
       refine .inl ?_
       have hg := hx w hF hS
       unfold Oper.wp
       generalize (execOp a.eval o).run P w = r at *
       cases r with
       | ok nx w' =>
        cases nx <;> simp only [givesX, Oper.upon] at hg ⊢
        case value u => obtain ⟨F', hb, hF', hC', hk⟩ := hg; exact h _ _ _ _ (hC.and hC') ⟨hC _ _ hF hb, hF'⟩ (hS.below hb) hk
        case skip => obtain ⟨F', hb, hF', hC', hk⟩ := hg; exact h _ _ _ _ (hC.and hC') ⟨hC _ _ hF hb, hF'⟩ (hS.below hb) hk
        case enter f args => exact hg.mono fun e w'' ⟨v, F', he, hb, hF', hC', hk⟩ => by subst he; exact h _ _ _ _ (hC.and hC') ⟨hC _ _ hF hb, hF'⟩ (hS.below hb) hk
       | halt x w' => simp only [givesX] at hg
theorem wpAny_of_wpQ {n : List Nat} {L : GK} {Q' : Exit → Act → World → Prop} (hn : ∀ j ∈ n, j < ops.size) (hL : ∀ F G a w, F w → SG N W0 G w → L F G a → wpList P ops Q' (n.filterMap (fun i => ops[i]?)) a w) :
  ∀ (f : Nat) (listed : Array Bool) (F : World → Prop) (G : List (Nat × Obj)) (a : Act) (w : World), Cl F → F w → SG N W0 G w → wpQ P md ops N W0 n L f listed F G a → wpAny P md ops Q' (f + n.length) listed a w
 | 0, listed, F, G, a, w, hC, hF, hS, h => by
  rw [Nat.zero_add]
  have h := h ⟨hC, w, hF, hS⟩
  exact wpAny_of_seqJ n listed a w hn h.1 (hL _ _ _ _ hF hS h.2)
 | f + 1, listed, F, G, a, w, hC, hF, hS, h => by
  rw [show f + 1 + n.length = (f + n.length) + 1 by omega]
  have h := h ⟨hC, w, hF, hS⟩
  exact ⟨fun h0 => absurd h0 h.1, fun i hi => wpOp_of_wfQ hF hC hS (fun F' G' a' w' hC' hF' hS' h' => wpAny_of_wpQ hn hL f _ F' G' a' w' hC' hF' hS' h') (h.2 i hi)⟩
theorem wp_region_floatQ {id : Nat} {Q : Exit → Act → World → Prop} {a : Act} {l : List Oper} {W0 : World} (N m : Nat) (n : List Nat) (hN : N ≤ W0.heap.size) (F0 : World → Prop) (hF0 : F0 W0) (hC0 : Cl F0) (hm : P.follows .mixedOrders = true) (hn : (decide (m + n.length = l.length) && n.all (fun j => decide (j < l.length))) = true)
  (h : wpQ P .any l.toArray N W0 n (fun F G a' => ∀ w', F w' → SG N W0 G w' → wpList P l.toArray Q (n.filterMap (fun i => l[i]?)) a' w') m (Array.replicate l.length false) F0 [] a) : (Code.region id l.toArray true).wp P Q a W0 := by
 simp only [Bool.and_eq_true, decide_eq_true_eq, List.all_eq_true] at hn
 refine wp_region_any hm ?_
 have := wpAny_of_wpQ (Q' := Q) (ops := l.toArray) (fun j hj => by simpa using hn.2 j hj) (fun F G a w hF hS hL => by simpa using hL w hF hS) _ _ _ [] a W0.drew hC0 (hC0 _ _ hF0 (Below.refl _ _).drew) ⟨(Own.refl hN).drew, fun p hp => by cases hp⟩ h
 rw [hn.1] at this
 simpa using this
def stepBQ (md : Region.Mode) (ops : Array Oper) (n : List Nat) (i : Nat) (listed : Array Bool) : Bool :=
  tailBJ md ops n && dcB md ops listed && (!n.contains i) && (Region.ready md ops listed).contains i && Region.free md ops listed i && match ops[i]? with | some o => !isFresh o | none => false
theorem stepB_specQ {n : List Nat} {i : Nat} {listed : Array Bool} {o : Oper} (hi : ops[i]? = some o) (h : stepBQ md ops n i listed = true) :
  (tailBJ md ops n = true ∧ dcB md ops listed = true) ∧ n.contains i = false ∧ i ∈ Region.ready md ops listed ∧ Region.free md ops listed i = true ∧ isFresh o = false := by
 simp only [stepBQ, hi, Bool.and_eq_true, Bool.not_eq_true'] at h
 obtain ⟨⟨⟨⟨⟨a, a'⟩, b⟩, c⟩, d⟩, e⟩ := h
 exact ⟨⟨a, a'⟩, b, by simpa using c, d, e⟩
theorem wpQ_step {i f : Nat} {n : List Nat} {o : Oper} {L : GK} {listed : Array Bool} {F : World → Prop} {G : List (Nat × Obj)} {a : Act} (hi : ops[i]? = some o) (hB : stepBQ md ops n i listed = true) (hg : o.guard = none) (v : Value)
  (h : GivesH P N W0 o a v) (hk : ∀ K : Act → Prop, (∀ a, wpQ P md ops N W0 n L f (listed.setIfInBounds i true) F G a → K a) → K (a.put o.dst v)) : wpQ P md ops N W0 n L (f + 1) listed F G a := by
 obtain ⟨h1, h2, h3, h4, h5⟩ := stepB_specQ hi hB
 exact wpQ_first h1.1 h2 hi h5 f listed F G a (dcB_spec h1.2) (Region.free_spec hi h4) h3 (.inl ⟨by simp [Region.wanted, hg], h⟩) (hk _ fun _ h => h)
def freshBQ (md : Region.Mode) (ops : Array Oper) (i f : Nat) (listed : Array Bool) : Bool :=
  Region.noSelect ops && onlyQ md ops i f listed && match ops[i]? with | some o => isFresh o | none => false
theorem wpQ_fresh {i f : Nat} {n : List Nat} {o : Oper} {L : GK} {listed : Array Bool} {F : World → Prop} {G : List (Nat × Obj)} {a : Act} (hL : LInv L) (hi : ops[i]? = some o) (hB : freshBQ md ops i f listed = true) (mk : Nat → Value) (hmk : freshV o = mk) (ob : Obj)
  (h : ∀ W, (execOp a.eval o).run P W = .ok (.value (mk W.heap.size)) (W.alloc ob))
  (hk : ∀ g, N ≤ g → (∀ p ∈ G, p.1 ≠ g) → ∀ K : Act → Prop, (∀ a, wpQ P md ops N W0 n L f (listed.setIfInBounds i true) F ((g, ob) :: G) a → K a) → K (a.put o.dst (mk g))) : wpQ P md ops N W0 n L (f + 1) listed F G a := by
 subst hmk
 simp only [freshBQ, hi, Bool.and_eq_true] at hB
 obtain ⟨⟨hs, hon⟩, ha⟩ := hB
 have hgd : o.guard = none := by
  unfold isFresh at ha
  split at ha
  · simpa using ha
  · simpa using ha
  · cases ha
 exact wpQ_freshfirst hL (Region.noSelect_spec hs) hi ha ob f listed F G a hon ⟨by simp [Region.wanted, hgd], h⟩ (fun g hN hg => hk g hN hg _ fun _ h => h)
theorem wpQ_wild {i f : Nat} {n : List Nat} {o : Oper} {L : GK} {listed : Array Bool} {F : World → Prop} {G : List (Nat × Obj)} {a : Act} (hi : ops[i]? = some o) (hB : decide (Region.ready md ops listed = [i]) = true) (hg : (o.guard.isNone && !isFresh o) = true)
  (h : ∀ W, F W → SG N W0 G W → givesW P N W0 (fun v F' G' => ∀ K : Act → Prop, (∀ a, wpQ P md ops N W0 n L f (listed.setIfInBounds i true) F' G' a → K a) → K (a.put o.dst v)) ((execOp a.eval o).run P W)) : wpQ P md ops N W0 n L (f + 1) listed F G a := by
 rw [decide_eq_true_eq] at hB
 rw [Bool.and_eq_true, Bool.not_eq_true'] at hg
 refine fun _ => ⟨fun h0 => (by rw [h0] at hB; cases hB), fun j hj => ?_⟩
 rw [hB] at hj
 obtain rfl : j = i := by simpa using hj
 unfold wfQ
 simp only [hi]
 rw [if_neg (by rw [hg.2]; exact Bool.false_ne_true)]
 exact .inr (.inl ⟨by have := hg.1; simp [Region.wanted, Option.isNone_iff_eq_none.1 this], fun W hF hS => givesW_mono (fun v F' G' hk => hk _ fun _ h => h) _ (h W hF hS)⟩)
def wpQI (P : Program) (md : Region.Mode) (ops : Array Oper) (N : Nat) (W0 : World) (n : List Nat) (L : GK) (_ : List Nat) (m : Nat) (listed : Array Bool) (F : World → Prop) (G : List (Nat × Obj)) (a : Act) : Prop := wpQ P md ops N W0 n L m listed F G a
theorem wpQI_start {m : Nat} {n : List Nat} {L : GK} {listed : Array Bool} {F : World → Prop} {G : List (Nat × Obj)} {a : Act} (is : List Nat) (h : wpQI P md ops N W0 n L is m listed F G a) : wpQ P md ops N W0 n L m listed F G a := h
theorem wpQI_nil {m : Nat} {n : List Nat} {L : GK} {listed : Array Bool} {F : World → Prop} {G : List (Nat × Obj)} {a : Act} (h : wpQ P md ops N W0 n L m listed F G a) : wpQI P md ops N W0 n L [] m listed F G a := h
theorem wpQI_step {i f : Nat} {n : List Nat} {is : List Nat} {o : Oper} {L : GK} {listed : Array Bool} {F : World → Prop} {G : List (Nat × Obj)} {a : Act} (hi : ops[i]? = some o) (hB : stepBQ md ops n i listed = true) (hg : o.guard = none) (v : Value)
  (h : GivesH P N W0 o a v) (hk : ∀ K : Act → Prop, (∀ a, wpQI P md ops N W0 n L is f (listed.setIfInBounds i true) F G a → K a) → K (a.put o.dst v)) : wpQI P md ops N W0 n L (i :: is) (f + 1) listed F G a := wpQ_step hi hB hg v h hk
theorem wpQ_done {n : List Nat} {L : GK} {listed : Array Bool} {F : World → Prop} {G : List (Nat × Obj)} {a : Act} (hB : seqJ md ops n listed = true) (h : L F G a) : wpQ P md ops N W0 n L 0 listed F G a := fun _ => ⟨hB, h⟩
theorem LInv.std {l : List Oper} {Q : Exit → Act → World → Prop} {n : List Oper} : LInv (fun F G a' => ∀ w', F w' → SG N W0 G w' → wpList P l.toArray Q n a' w') := fun F G G' a h hL w' hF hS => hL w' hF (hS.same (fun p => (h p).symm))
end
section
variable {P : Program} {ops : Array Oper} {md : Region.Mode} {S : World → Prop} {Q : Exit → Act → World → Prop}
def Steady (P : Program) (ops : Array Oper) (S : World → Prop) (o : Oper) (v : Value) (a : Act) : Prop :=
  (Region.wanted o (yielded ops a.tmps) = true ∧ ∀ w, S w → (execOp a.eval o).run P w = .ok (.value v) w) ∨
  (Region.wanted o (yielded ops a.tmps) = false ∧ v = undef)
theorem Steady.of_same {o : Oper} {v : Value} {a a' : Act} (hy : Steady P ops S o v a) (he : execOp a'.eval o = execOp a.eval o)
  (hw : Region.wanted o (yielded ops a'.tmps) = Region.wanted o (yielded ops a.tmps)) : Steady P ops S o v a' := by
 unfold Steady at *
 rw [he, hw]
 exact hy
theorem Steady.wpOp {i : Nat} {o : Oper} {v : Value} {a : Act} (hi : ops[i]? = some o) (hy : Steady P ops S o v a)
  {K : Act → World → Prop} {w : World} (hS : S w) (h : K (a.put o.dst v) w) : wpOp P ops Q i K a w := by
 unfold Go.wpOp
 simp only [hi]
 rcases hy with ⟨hw, hv⟩ | ⟨hw, rfl⟩
 · simp only [hw, if_true, Oper.wp, hv w hS, Oper.upon]; exact .inl h
 · simp only [hw, Bool.false_eq_true, if_false]; exact h
theorem wpOpZ_put {j : Nat} {oi oj : Oper} {v : Value} (hj : ops[j]? = some oj) (hap : oi.apart ops oj = true)
  (hsi : ∀ cs b, oi.op ≠ .select cs b) (hsj : ∀ cs b, oj.op ≠ .select cs b)
  (hQ : ∀ c a w, Q (.panic c) (a.put oi.dst v) w → Q (.panic c) a w) {K : Act → World → Prop} {a : Act} {w : World}
  (hy : Steady P ops S oi v a) (h : wpOp P ops Q j K (a.put oi.dst v) w) :
  wpOp P ops Q j (fun a' w' => Steady P ops S oi v a' ∧ K (a'.put oi.dst v) w') a w := by
 obtain ⟨h1, h2, h3⟩ := Oper.apart_spec hap
 have keep : ∀ (a : Act), Steady P ops S oi v a → ∀ u, Steady P ops S oi v (a.put oj.dst u) := fun a hy u =>
  hy.of_same (execOp_put oi hsi a oj.dst u h3) (wanted_put oi a oj.dst u h3)
 have keepD : ∀ d, Steady P ops S oi v { a with defers := d :: a.defers } := fun d => hy.of_same rfl rfl
 unfold wpOp at *
 simp only [hj] at *
 rw [wanted_put oj a oi.dst v h1] at h
 split
 · rename_i hw
   simp only [hw, if_true] at h
   rcases h with h | ⟨hasks, hlets⟩
   case inr => exact .inr ⟨by unfold Oper.asks at *; rw [execOp_put oj hsj a oi.dst v h1] at hasks; exact hasks, hlets⟩
   refine .inl ?_
   unfold Oper.wp at *
   rw [execOp_put oj hsj a oi.dst v h1] at h
   generalize (execOp a.eval oj).run P w = r at *
   cases r with
   | ok n w' =>
    cases n <;> simp only [Oper.upon] at h ⊢
    case value u => exact ⟨keep a hy u, by rw [← Act.put_comm a v u h2]; exact h⟩
    case skip => exact ⟨keep a hy _, by rw [← Act.put_comm a v undef h2]; exact h⟩
    case defer d =>
     refine ⟨keep _ (keepD d) _, ?_⟩
     rw [← Act.put_comm _ v undef h2, ← Act.put_defers]
     exact h
    case enter f args =>
     refine Calls.mono h fun e w'' he => ?_
     cases e with
     | returned u => exact ⟨keep a hy u, by rw [← Act.put_comm a v u h2]; exact he⟩
     | panicked c => exact hQ _ _ _ he
     | outgrown => exact he
    case row row args => exact Rows.mono h fun u w'' he => ⟨keep a hy u, by rw [← Act.put_comm a v u h2]; exact he⟩
   | halt x w' =>
    cases x <;> simp only [Oper.upon] at h ⊢
    case panic u => exact hQ _ _ _ h
 · rename_i hw
   simp only [hw] at h
   exact ⟨keep a hy _, by rw [← Act.put_comm a v undef h2]; exact h⟩
def wpZ (P : Program) (md : Region.Mode) (ops : Array Oper) (S : World → Prop) (Q : Exit → Act → World → Prop) (n : List Nat) (L : Act → World → Prop) : Nat → Array Bool → Act → World → Prop
  | 0, listed, a, w => seqJ md ops n listed = true ∧ L a w
  | f + 1, listed, a, w => Region.ready md ops listed ≠ [] ∧ ∀ i ∈ Region.ready md ops listed, wpOp P ops Q i (fun a' w' => S w' ∧ wpZ P md ops S Q n L f (listed.setIfInBounds i true) a' w') a w
theorem wpZ_first {i : Nat} {n : List Nat} {oi : Oper} {v : Value} {L : Act → World → Prop} (hT : tailBJ md ops n = true) (hin : n.contains i = false) (hi : ops[i]? = some oi)
  (hQ : ∀ c a w, Q (.panic c) (a.put oi.dst v) w → Q (.panic c) a w) :
  ∀ (f : Nat) (listed : Array Bool) (a : Act) (w : World),
   DC md ops listed → (∀ j oj, ops[j]? = some oj → j ≠ i → listed.getD j true = false → (∀ e ∈ oj.after, Region.binds md e = true → e.on ≠ i) → oi.apart ops oj = true) →
   i ∈ Region.ready md ops listed → Steady P ops S oi v a → S w →
   wpZ P md ops S Q n L f (listed.setIfInBounds i true) (a.put oi.dst v) w → wpZ P md ops S Q n L (f + 1) listed a w := by
 have hsel := Region.noSelect_spec (by have := hT; unfold tailBJ at this; rw [Bool.and_eq_true] at this; exact this.1)
 intro f
 induction f with
 | zero =>
  intro listed a w hdc hfree hr hy hS H
  have hun := (mem_ready.1 hr).1
  refine ⟨fun h => (by rw [h] at hr; cases hr), fun j hj => ?_⟩
  by_cases hji : j = i
  · subst hji
    exact hy.wpOp hi hS ⟨hS, H⟩
  · have h1 := seqB_memJ H.1 j (ready_mono hj hji)
    have h2 := tailB_specJ hT hdc hj (Array.getElem?_eq_some_iff.1 hi).1 hin hun
    rw [h1] at h2; cases h2
 | succ f ih =>
  intro listed a w hdc hfree hr hy hS H
  have hun := (mem_ready.1 hr).1
  refine ⟨fun h => (by rw [h] at hr; cases hr), fun j hj => ?_⟩
  by_cases hji : j = i
  · subst hji
    exact hy.wpOp hi hS ⟨hS, H⟩
  · have h1 := H.2 j (ready_mono hj hji)
    obtain ⟨hjun, oj, hoj, hall⟩ := mem_ready.1 hj
    have hnot : ∀ e ∈ oj.after, Region.binds md e = true → e.on ≠ i := fun e he hb heq => by
     have h1 := hall e he hb
     rw [heq, getD_both hun] at h1
     cases h1
    have h2 := wpOpZ_put hoj (hfree j oj hoj hji hjun hnot) (fun cs b => hsel i oi cs b hi) (fun cs b => hsel j oj cs b hoj) hQ hy h1
    have hfree' : ∀ k ok, ops[k]? = some ok → k ≠ i → (listed.setIfInBounds j true).getD k true = false →
      (∀ e ∈ ok.after, Region.binds md e = true → e.on ≠ i) → oi.apart ops ok = true := fun k ok hk hki hun hno => by
     refine hfree k ok hk hki ?_ hno
     by_cases hjk : j = k
     · subst hjk; exact hjun
     · rw [getD_set_ne true hjk] at hun; exact hun
    refine wpOp_mono (fun a' w' h3 => ⟨h3.2.1, ih (listed.setIfInBounds j true) a' w' (hdc.set hj) hfree' (ready_mono hr (Ne.symm hji)) h3.1 h3.2.1 ?_⟩) h2
    rw [Array.setIfInBounds_comm _ _ hji]
    exact h3.2.2
theorem wpAny_of_wpZ {n : List Nat} {L : Act → World → Prop} (hn : ∀ j ∈ n, j < ops.size) (hL : ∀ a w, L a w → wpList P ops Q (n.filterMap (fun i => ops[i]?)) a w) :
  ∀ (f : Nat) (listed : Array Bool) (a : Act) (w : World), wpZ P md ops S Q n L f listed a w → wpAny P md ops Q (f + n.length) listed a w
 | 0, listed, a, w, h => by
  rw [Nat.zero_add]
  exact wpAny_of_seqJ n listed a w hn h.1 (hL _ _ h.2)
 | f + 1, listed, a, w, h => by
  rw [show f + 1 + n.length = (f + n.length) + 1 by omega]
  exact ⟨fun h0 => absurd h0 h.1, fun i hi => wpOp_mono (fun a' w' h' => wpAny_of_wpZ hn hL f _ a' w' h'.2) (h.2 i hi)⟩
theorem wp_region_Z {id : Nat} {a : Act} {w : World} {l : List Oper} (S : World → Prop) (m : Nat) (n : List Nat) (hm : P.follows .mixedOrders = true) (hn : (decide (m + n.length = l.length) && n.all (fun j => decide (j < l.length))) = true)
  (h : wpZ P .any l.toArray S Q n (fun a' w' => wpList P l.toArray Q (n.filterMap (fun i => l[i]?)) a' w') m (Array.replicate l.length false) a w.drew) : (Code.region id l.toArray true).wp P Q a w := by
 simp only [Bool.and_eq_true, decide_eq_true_eq, List.all_eq_true] at hn
 refine wp_region_any hm ?_
 have := wpAny_of_wpZ (Q := Q) (ops := l.toArray) (fun j hj => by simpa using hn.2 j hj) (fun a w hL => by simpa using hL) _ _ a w.drew h
 rw [hn.1] at this
 simpa using this
def stepBZ (md : Region.Mode) (ops : Array Oper) (n : List Nat) (i : Nat) (listed : Array Bool) : Bool :=
  tailBJ md ops n && dcB md ops listed && (!n.contains i) && (Region.ready md ops listed).contains i && Region.free md ops listed i
theorem stepB_specZ {n : List Nat} {i : Nat} {listed : Array Bool} {o : Oper} (hi : ops[i]? = some o) (h : stepBZ md ops n i listed = true) :
  (tailBJ md ops n = true ∧ dcB md ops listed = true) ∧ n.contains i = false ∧ i ∈ Region.ready md ops listed ∧ Region.free md ops listed i = true := by
 simp only [stepBZ, Bool.and_eq_true, Bool.not_eq_true'] at h
 obtain ⟨⟨⟨⟨a, a'⟩, b⟩, c⟩, d⟩ := h
 exact ⟨⟨a, a'⟩, b, by simpa using c, d⟩
theorem wpZ_step {i f : Nat} {n : List Nat} {o : Oper} {L : Act → World → Prop} {listed : Array Bool} {a : Act} {w : World} (hi : ops[i]? = some o) (hB : stepBZ md ops n i listed = true) (hg : o.guard = none) (v : Value)
  (hQ : ∀ c a w, Q (.panic c) (a.put o.dst v) w → Q (.panic c) a w) (hS : S w)
  (h : ∀ w, S w → (execOp a.eval o).run P w = .ok (.value v) w) (hk : ∀ K : Act → World → Prop, (∀ a w, wpZ P md ops S Q n L f (listed.setIfInBounds i true) a w → K a w) → K (a.put o.dst v) w) : wpZ P md ops S Q n L (f + 1) listed a w := by
 obtain ⟨h1, h2, h3, h4⟩ := stepB_specZ hi hB
 exact wpZ_first h1.1 h2 hi hQ f listed a w (dcB_spec h1.2) (Region.free_spec hi h4) h3 (.inl ⟨by simp [Region.wanted, hg], h⟩) hS (hk _ fun _ _ h => h)
theorem wpZ_one {i f : Nat} {n : List Nat} {o : Oper} {L : Act → World → Prop} {listed : Array Bool} {a : Act} {w : World} (hi : ops[i]? = some o) (hB : decide (Region.ready md ops listed = [i]) = true) (hg : o.guard = none)
  (hk : ∀ K : Act → World → Prop, (∀ a w, wpZ P md ops S Q n L f (listed.setIfInBounds i true) a w → K a w) → Oper.upon P o a (fun a' w' => S w' ∧ K a' w') Q ((execOp a.eval o).run P w)) : wpZ P md ops S Q n L (f + 1) listed a w := by
 rw [decide_eq_true_eq] at hB
 refine ⟨fun h0 => (by rw [h0] at hB; cases hB), fun j hj => ?_⟩
 rw [hB] at hj
 obtain rfl : j = i := by simpa using hj
 unfold wpOp
 simp only [hi]
 rw [if_pos (by simp [Region.wanted, hg])]
 exact .inl (hk _ fun _ _ h => h)
theorem wpZ_nil {n : List Nat} {L : Act → World → Prop} {listed : Array Bool} {a : Act} {w : World} (hB : seqJ md ops n listed = true) (h : L a w) : wpZ P md ops S Q n L 0 listed a w := ⟨hB, h⟩
end
section
variable {P : Program} {ops : Array Oper} {md : Region.Mode} {S : World → Prop} {Q : Exit → Act → World → Prop}
def opt (b : Bool) (v : Value) : Value := if b = true then v else undef
theorem opt_true {v : Value} : opt true v = v := rfl
theorem opt_false {v : Value} : opt false v = undef := rfl
attribute [go_sem] opt_true opt_false
theorem wpZ_maybe {i f : Nat} {n : List Nat} {o : Oper} {L : Act → World → Prop} {listed : Array Bool} {a : Act} {w : World} (hi : ops[i]? = some o) (hB : stepBZ md ops n i listed = true) (b : Bool) (hg : Region.wanted o (yielded ops a.tmps) = b) (v : Value)
  (hQ : ∀ c a w, Q (.panic c) (a.put o.dst (opt b v)) w → Q (.panic c) a w) (hS : S w)
  (h : b = true → ∀ w, S w → (execOp a.eval o).run P w = .ok (.value v) w) (hk : ∀ K : Act → World → Prop, (∀ a w, wpZ P md ops S Q n L f (listed.setIfInBounds i true) a w → K a w) → K (a.put o.dst (opt b v)) w) : wpZ P md ops S Q n L (f + 1) listed a w := by
 obtain ⟨h1, h2, h3, h4⟩ := stepB_specZ hi hB
 refine wpZ_first (v := opt b v) h1.1 h2 hi hQ f listed a w (dcB_spec h1.2) (Region.free_spec hi h4) h3 ?_ hS (hk _ fun _ _ h => h)
 cases b with
 | true => exact .inl ⟨hg, h rfl⟩
 | false => exact .inr ⟨hg, rfl⟩
theorem wpZ_freshm {i f : Nat} {n : List Nat} {o : Oper} {L : Act → World → Prop} {listed : Array Bool} {a : Act} {w : World} (hi : ops[i]? = some o) (hB : decide (Region.ready md ops listed = [i]) = true) (b : Bool) (hg : Region.wanted o (yielded ops a.tmps) = b) (v : Value) (ob : Obj)
  (h : b = true → (execOp a.eval o).run P w = .ok (.value v) (w.alloc ob)) (hS : S w) (hS' : S (w.alloc ob))
  (hk : ∀ K : Act → World → Prop, (∀ a w, wpZ P md ops S Q n L f (listed.setIfInBounds i true) a w → K a w) → ∀ w', S w' → (b = true → w' = w.alloc ob) → K (a.put o.dst (opt b v)) w') : wpZ P md ops S Q n L (f + 1) listed a w := by
 rw [decide_eq_true_eq] at hB
 refine ⟨fun h0 => (by rw [h0] at hB; cases hB), fun j hj => ?_⟩
 rw [hB] at hj
 obtain rfl : j = i := by simpa using hj
 unfold wpOp
 simp only [hi]
 cases b with
 | true =>
  rw [if_pos hg]
  refine .inl ?_
  unfold Oper.wp
  rw [h rfl]
  exact ⟨hS', hk _ (fun _ _ h => h) _ hS' fun _ => rfl⟩
 | false =>
  rw [if_neg (by rw [hg]; simp)]
  exact ⟨hS, hk _ (fun _ _ h => h) _ hS fun h => by cases h⟩
theorem wpZ_callm {i f : Nat} {n : List Nat} {o : Oper} {L : Act → World → Prop} {listed : Array Bool} {a : Act} {w : World} (hi : ops[i]? = some o) (hB : decide (Region.ready md ops listed = [i]) = true) (b : Bool) (hg : Region.wanted o (yielded ops a.tmps) = b) (v : Value)
  (h : b = true → ∀ N : Act → World → Prop, (∀ w', S w' → N (a.put o.dst v) w') → Oper.upon P o a N Q ((execOp a.eval o).run P w)) (hS : S w)
  (hk : ∀ K : Act → World → Prop, (∀ a w, wpZ P md ops S Q n L f (listed.setIfInBounds i true) a w → K a w) → ∀ w', S w' → K (a.put o.dst (opt b v)) w') : wpZ P md ops S Q n L (f + 1) listed a w := by
 rw [decide_eq_true_eq] at hB
 refine ⟨fun h0 => (by rw [h0] at hB; cases hB), fun j hj => ?_⟩
 rw [hB] at hj
 obtain rfl : j = i := by simpa using hj
 unfold wpOp
 simp only [hi]
 cases b with
 | true =>
  rw [if_pos hg]
  exact .inl (h rfl _ fun w' hw => ⟨hw, hk _ (fun _ _ h => h) w' hw⟩)
 | false =>
  rw [if_neg (by rw [hg]; simp)]
  exact ⟨hS, hk _ (fun _ _ h => h) w hS⟩
theorem wpL_maybe {o : Oper} {rest : List Oper} {a : Act} {w : World} (b : Bool) (hg : Region.wanted o (yielded ops a.tmps) = b) (v : Value) (h : b = true → (execOp a.eval o).run P w = .ok (.value v) w)
  (hk : ∀ K : Act → World → Prop, (∀ a w, wpList P ops Q rest a w → K a w) → K (a.put o.dst (opt b v)) w) : wpList P ops Q (o :: rest) a w := by
 have hk := hk _ fun _ _ h => h
 cases b with
 | true => exact BigFrame.wpList_want hg fun K hK => by unfold Oper.wp; rw [h rfl]; exact hK _ _ hk
 | false => exact wpList_skip hg hk
theorem wpL_freshm {o : Oper} {rest : List Oper} {a : Act} {w : World} (b : Bool) (hg : Region.wanted o (yielded ops a.tmps) = b) (v : Value) (ob : Obj) (h : b = true → (execOp a.eval o).run P w = .ok (.value v) (w.alloc ob)) (hS : S w) (hS' : S (w.alloc ob))
  (hk : ∀ K : Act → World → Prop, (∀ a w, wpList P ops Q rest a w → K a w) → ∀ w', S w' → (b = true → w' = w.alloc ob) → K (a.put o.dst (opt b v)) w') : wpList P ops Q (o :: rest) a w := by
 have hk := hk _ fun _ _ h => h
 cases b with
 | true => exact BigFrame.wpList_want hg fun K hK => by unfold Oper.wp; rw [h rfl]; exact hK _ _ (hk _ hS' fun _ => rfl)
 | false => exact wpList_skip hg (hk _ hS fun h => by cases h)
theorem wpL_callm {o : Oper} {rest : List Oper} {a : Act} {w : World} (b : Bool) (hg : Region.wanted o (yielded ops a.tmps) = b) (v : Value)
  (h : b = true → ∀ N : Act → World → Prop, (∀ w', S w' → N (a.put o.dst v) w') → Oper.upon P o a N Q ((execOp a.eval o).run P w)) (hS : S w)
  (hk : ∀ K : Act → World → Prop, (∀ a w, wpList P ops Q rest a w → K a w) → ∀ w', S w' → K (a.put o.dst (opt b v)) w') : wpList P ops Q (o :: rest) a w := by
 have hk := hk _ fun _ _ h => h
 cases b with
 | true => exact BigFrame.wpList_want hg fun K hK => h rfl _ fun w' hw => hK _ _ (hk w' hw)
 | false => exact wpList_skip hg (hk w hS)
end
theorem bcellW {N : Nat} {W w1 : World} (hb : Below N W w1) : (∀ b o, b < N → w1.cell? ⟨b, o, none⟩ = W.cell? ⟨b, o, none⟩) ∧ (∀ b o, b < N → w1.frozen? ⟨b, o, none⟩ = W.frozen? ⟨b, o, none⟩) :=
 ⟨fun b o h => hb.cell (p := ⟨b, o, none⟩) h, fun b o h => hb.frozen (p := ⟨b, o, none⟩) h⟩
def iC (x : Int) : List Value := [.int .i64 x]
abbrev IsAt (w : World) (A : Option Addr) (l : List Int) : Prop := RowsAt 1 iC w A l
theorem IsAt.get {w : World} {A : Option Addr} {l : List Int} (h : IsAt w A l) {k : Nat} {x : Int} (hx : l[k]? = some x) : ∃ g o, A = some ⟨g, o, none⟩ ∧ g < w.heap.size ∧ w.cell? ⟨g, o + k, none⟩ = some (.int .i64 x) := by
 obtain ⟨g, o, hA, hg, hc⟩ := h k x hx
 exact ⟨g, o, hA, hg, by have := hc 0 _ rfl; simpa using this⟩
structure Vc where
  x : Int
  y : Int
def Vc.cells (v : Vc) : List Value := [.int .i64 v.x, .int .i64 v.y]
abbrev VcAt (w : World) (A : Option Addr) (l : List Vc) : Prop := RowsAt 2 Vc.cells w A l
theorem VcAt.get {w : World} {A : Option Addr} {l : List Vc} (h : VcAt w A l) {k : Nat} {x : Vc} (hx : l[k]? = some x) : ∃ g o, A = some ⟨g, o, none⟩ ∧ g < w.heap.size ∧ w.cell? ⟨g, o + k * 2, none⟩ = some (.int .i64 x.x) ∧ w.cell? ⟨g, o + k * 2 + 1, none⟩ = some (.int .i64 x.y) := by
 obtain ⟨g, o, hA, hg, hc⟩ := h k x hx
 simp only [← Nat.add_assoc] at hc
 exact ⟨g, o, hA, hg, hc 0 _ rfl, hc 1 _ rfl⟩
theorem rows_new {α : Type} {n : Nat} {f : α → List Value} (hn : 0 < n) (hf : ∀ x, (f x).length = n) (w : World) (l : List α) (e : TypeId) : RowsAt n f (w.alloc (.cells (l.flatMap f).toArray e)) (some ⟨w.heap.size, 0, none⟩) l := fun k x hx => by
 refine ⟨_, 0, rfl, by simp, fun j u hu => ?_⟩
 rw [World.cell?_alloc_new]
 have key : ∀ (l : List α) (k : Nat), l[k]? = some x → (l.flatMap f)[k * n + j]? = some u := by
  intro l
  induction l with
  | nil => intro k h; simp at h
  | cons y l ih =>
   intro k h
   have hj : j < (f x).length := (List.getElem?_eq_some_iff.1 hu).1
   rw [hf] at hj
   rw [List.flatMap_cons]
   cases k with
   | zero =>
    simp only [List.getElem?_cons_zero, Option.some.injEq] at h
    subst h
    rw [List.getElem?_append_left (by rw [hf]; omega), Nat.zero_mul, Nat.zero_add]
    exact hu
   | succ k =>
    rw [List.getElem?_cons_succ] at h
    rw [List.getElem?_append_right (by rw [hf, Nat.succ_mul]; omega), hf, show (k + 1) * n + j - n = k * n + j by rw [Nat.succ_mul]; omega]
    exact ih k h
 have := key l k hx
 simp only [Nat.zero_add]
 first | exact this | simpa using this
def in1 (lo hi x : Int) : Bool := decide (lo ≤ x) && decide (x ≤ hi)
def inL (lo hi : Int) (l : List Int) : Bool := l.all (in1 lo hi)
theorem inL_drop {lo hi : Int} {l : List Int} {k : Nat} {x : Int} (h : l[k]? = some x) : inL lo hi (l.drop k) = (in1 lo hi x && inL lo hi (l.drop (k + 1))) := by
 obtain ⟨h1, rfl⟩ := List.getElem?_eq_some_iff.1 h
 rw [List.drop_eq_getElem_cons h1]
 rfl
set_option maxHeartbeats 1000000 in
theorem in_any (lo hi : Int) (l : List Int) (A : Option Addr) (c : Nat) (w : World) (hA : IsAt w A l) (hl : l.length ≤ maxLen) :
  Calls Tryz.prog 25 #[.int .i64 lo, .int .i64 hi, .slice A l.length c] w fun e w' => e = .returned (.bool (inL lo hi l)) ∧ w = w' := by
 unfold maxLen at hl
 have HA := hQ0 hA
 obtain ⟨R, hR⟩ : ∃ R, R = inL lo hi l := ⟨_, rfl⟩
 have HR : Hid (inL lo hi (l.drop 0) = R) := hQ0 hR.symm
 rw [← hR]
 clear hA hR
 go_enter Tryz.func25, Tryz.ntmps25; (try simp only [List.append_eq, List.cons_append, List.nil_append])
 go_wp2_with fail
 go_loop [11] (fun t => ∃ k : Nat, k ≤ l.length ∧ t = .int .i64 k ∧ Hid (inL lo hi (l.drop k) = R)) (fun t => l.length - (intOf t).toNat)
 case atStart => exact ⟨0, by omega, rfl, HR⟩
 case round =>
  obtain ⟨k, hk, rfl, HJ⟩ := hrel
  by_cases hlt : k < l.length
  · obtain ⟨x, hx⟩ : ∃ x, l[k]? = some x := ⟨l[k], by simp⟩
    obtain ⟨g, o, rfl, hg, c0⟩ := IsAt.get HA.out hx
    have HS := hQ0 (inL_drop (lo := lo) (hi := hi) hx)
    have i1 : (k : Int) < (l.length : Int) := by omega
    clear hx
    by_cases h1 : x < lo
    · obtain rfl : R = false := by rw [← HJ.out, HS.out]; unfold in1; rw [decide_eq_false (p := lo ≤ x) (by omega)]; rfl
      go_wp2_with fail
      go_ret
      exact ⟨rfl, rfl⟩
    · by_cases h2 : hi < x
      · obtain rfl : R = false := by rw [← HJ.out, HS.out]; unfold in1; rw [decide_eq_false (p := x ≤ hi) (by omega), Bool.and_false]; rfl
        go_wp2_with fail
        go_ret
        exact ⟨rfl, rfl⟩
      · have HN : Hid (inL lo hi (l.drop (k + 1)) = R) := hQ0 (by rw [← HJ.out, HS.out]; unfold in1; rw [decide_eq_true (p := lo ≤ x) (by omega), decide_eq_true (p := x ≤ hi) (by omega)]; rfl)
        go_wp2_with fail
        go_round
        case rel => exact ⟨k + 1, by omega, by go_num, HN⟩
        case measure => simp [intOf]; omega
  · obtain rfl : k = l.length := by omega
    obtain rfl : R = true := by rw [← HJ.out, List.drop_length]; rfl
    go_wp2_with fail
    go_ret
    exact ⟨rfl, rfl⟩
theorem inL1 (lo hi x : Int) : inL lo hi [x] = in1 lo hi x := by simp [inL]
theorem inL2 (lo hi x y : Int) : inL lo hi [x, y] = (in1 lo hi x && in1 lo hi y) := by simp [inL]
theorem is_new (w : World) (l : List Int) : IsAt (w.alloc (.cells (l.flatMap iC).toArray 3)) (some ⟨w.heap.size, 0, none⟩) l := rows_new (n := 1) (f := iC) (by decide) (fun _ => rfl) w l 3
theorem vc_new (w : World) (l : List Vc) : VcAt (w.alloc (.cells (l.flatMap Vc.cells).toArray 23)) (some ⟨w.heap.size, 0, none⟩) l := rows_new (n := 2) (f := Vc.cells) (by decide) (fun _ => rfl) w l 23
theorem in_new1 (lo hi x : Int) (g : Nat) (w : World) (hg : g = w.heap.size) : Calls Tryz.prog 25 #[.int .i64 lo, .int .i64 hi, .slice (some ⟨g, 0, none⟩) 1 1] (w.alloc (.cells #[.int .i64 x] 3)) fun e w' => e = .returned (.bool (in1 lo hi x)) ∧ w.alloc (.cells #[.int .i64 x] 3) = w' := by
 subst hg
 have := in_any lo hi [x] (some ⟨w.heap.size, 0, none⟩) 1 _ (is_new w [x]) (by unfold maxLen; simp)
 rw [inL1] at this
 exact this
theorem in_new2 (lo hi x y : Int) (g : Nat) (w : World) (hg : g = w.heap.size) : Calls Tryz.prog 25 #[.int .i64 lo, .int .i64 hi, .slice (some ⟨g, 0, none⟩) 2 2] (w.alloc (.cells #[.int .i64 x, .int .i64 y] 3)) fun e w' => e = .returned (.bool (in1 lo hi x && in1 lo hi y)) ∧ w.alloc (.cells #[.int .i64 x, .int .i64 y] 3) = w' := by
 subst hg
 have := in_any lo hi [x, y] (some ⟨w.heap.size, 0, none⟩) 2 _ (is_new w [x, y]) (by unfold maxLen; simp)
 rw [inL2] at this
 exact this
set_option maxHeartbeats 1000000 in
theorem level_any (l : List Int) (A : Option Addr) (c : Nat) (w : World) (hA : IsAt w A l) (hl : l.length ≤ maxLen) :
  Calls Tryz.prog 28 #[.slice A l.length c] w fun e w' => e = .returned (.bool (inL 0 3 l)) ∧ w = w' := by
 have HA := hQ0 hA
 have HL := hQ0 hl
 clear hA hl
 go_enter Tryz.func28, Tryz.ntmps28; (try simp only [List.append_eq, List.cons_append, List.nil_append])
 go_wp2_with fail
 (go_at_call 25; refine (in_any 0 3 l A c _ HA.out HL.out).mono ?_; rintro e w1 ⟨rfl, rfl⟩)
 go_wp2_with fail
 go_ret
 exact ⟨rfl, rfl⟩
set_option maxHeartbeats 1000000 in
theorem bounce_any (x y : Int) (w : World) : Calls Tryz.prog 30 #[.int .i64 x, .int .i64 y] w fun e w' => e = .returned (.bool (in1 0 15 x && in1 0 15 y)) ∧ Below w.heap.size w w' := by
 go_enter Tryz.func30, Tryz.ntmps30; (try simp only [List.append_eq, List.cons_append, List.nil_append])
 go_wp2_with fail
 (go_at_call 25; refine (in_new2 0 15 x y _ _ (by simp)).mono ?_; rintro e w1 ⟨rfl, rfl⟩)
 go_wp2_with fail
 go_ret
 exact ⟨rfl, (Below.refl _ _).alloc (Nat.le_refl _) _⟩
set_option maxRecDepth 100000 in
set_option maxHeartbeats 1000000 in
theorem ports_any (x y : Int) (w : World) : Calls Tryz.prog 31 #[.int .i64 x, .int .i64 y] w fun e w' => e = .returned (.bool (in1 (-1) 31 x && in1 (-1) 63 y)) ∧ Below w.heap.size w w' := by
 cases hb : in1 (-1) 31 x
 · have K := fun g W (hg : g = W.heap.size) => in_new1 (-1) 31 x g W hg
   rw [hb] at K
   have KK := hQ0 K
   clear K hb
   go_enter Tryz.func31, Tryz.ntmps31; (try simp only [List.append_eq, List.cons_append, List.nil_append])
   go_wp2_with fail
   (go_at_call 25; refine (KK.out _ _ (by simp)).mono ?_; rintro e w1 ⟨rfl, rfl⟩)
   go_wp2_with fail
   go_ret
   exact ⟨rfl, (Below.refl _ _).alloc (Nat.le_refl _) _⟩
 · have K := fun g W (hg : g = W.heap.size) => in_new1 (-1) 31 x g W hg
   rw [hb] at K
   have KK := hQ0 K
   clear K hb
   go_enter Tryz.func31, Tryz.ntmps31; (try simp only [List.append_eq, List.cons_append, List.nil_append])
   go_wp2_with fail
   (go_at_call 25; refine (KK.out _ _ (by simp)).mono ?_; rintro e w1 ⟨rfl, rfl⟩)
   go_wp2_with fail
   (go_at_call 25; refine (in_new1 (-1) 63 y _ _ (by simp)).mono ?_; rintro e w1 ⟨rfl, rfl⟩)
   go_wp2_with fail
   go_ret
   exact ⟨rfl, ((Below.refl _ _).alloc (Nat.le_refl _) _).alloc (by simp) _⟩
def nearV (n : Int) (v : Vc) : Bool := in1 (-n) n v.x && in1 (-n) n v.y
theorem all_drop {α : Type} {f : α → Bool} {l : List α} {k : Nat} {x : α} (h : l[k]? = some x) : (l.drop k).all f = (f x && (l.drop (k + 1)).all f) := by
 obtain ⟨h1, rfl⟩ := List.getElem?_eq_some_iff.1 h
 rw [List.drop_eq_getElem_cons h1]
 rfl
set_option maxHeartbeats 2000000 in
theorem within_any (n : Int) (l : List Vc) (A : Option Addr) (c : Nat) (w : World) (hA : VcAt w A l) (hl : l.length ≤ maxLen) (h0 : 0 ≤ n) (h1 : n ≤ 1073741824) :
  Calls Tryz.prog 26 #[.int .i64 n, .slice A l.length c] w fun e w' => e = .returned (.bool (l.all (nearV n))) ∧ Below w.heap.size w w' := by
 unfold maxLen at hl
 have HA := hQ0 hA
 obtain ⟨R, hR⟩ : ∃ R, R = l.all (nearV n) := ⟨_, rfl⟩
 have HR : Hid ((l.drop 0).all (nearV n) = R) := hQ0 hR.symm
 rw [← hR]
 clear hA hR
 go_enter Tryz.func26, Tryz.ntmps26; (try simp only [List.append_eq, List.cons_append, List.nil_append])
 go_wp2_with fail
 go_loopg [9] (l.length + 1) (fun gk t wr => ∃ k : Nat, k ≤ l.length ∧ l.length - k < gk ∧ t = .int .i64 k ∧ Below w.heap.size w wr ∧ Hid ((l.drop k).all (nearV n) = R))
 case atStart => exact ⟨0, by omega, by omega, rfl, Below.refl _ _, HR⟩
 case round =>
  obtain ⟨ws, rfl⟩ : ∃ z, z = wr := ⟨_, rfl⟩
  obtain ⟨k, hk, hkk, rfl, hb, HJ⟩ := hrel
  have hz := hb.size
  by_cases hlt : k < l.length
  · obtain ⟨v, hx⟩ : ∃ x, l[k]? = some x := ⟨l[k], by simp⟩
    obtain ⟨g, o, rfl, hg, c0, c1⟩ := VcAt.get (HA.out.below hb (Nat.le_refl _)) hx
    have HS := hQ0 (all_drop (f := nearV n) hx)
    have HB := hQ0 hb
    have i1 : (k : Int) < (l.length : Int) := by omega
    clear hx hb
    obtain ⟨r, hr⟩ : ∃ r, r = nearV n v := ⟨_, rfl⟩
    have K := fun g W (hg : g = W.heap.size) => in_new2 (-n) n v.x v.y g W hg
    rw [show (in1 (-n) n v.x && in1 (-n) n v.y) = r from hr.symm] at K
    rw [← hr] at HS
    have KK := hQ0 K
    clear K hr
    cases r
    · obtain rfl : R = false := by rw [← HJ.out, HS.out]; rfl
      go_wp2_with fail
      (go_at_call 25; refine (KK.out _ _ (by simp)).mono ?_; rintro e w1 ⟨rfl, rfl⟩)
      go_wp2_with fail
      go_ret
      refine ⟨rfl, ?_⟩
      have hb := HB.out
      ((with_reducible (repeat (first | exact bR _ _ | apply bS | apply bA | apply bD | refine bT ?_ (by assumption) ?_ | refine bO (by assumption) ?_ ?_))) <;> (first | omega | (simp <;> omega)))
    · have HN : Hid ((l.drop (k + 1)).all (nearV n) = R) := hQ0 (by rw [← HJ.out, HS.out]; rfl)
      go_wp2_with fail
      (go_at_call 25; refine (KK.out _ _ (by simp)).mono ?_; rintro e w1 ⟨rfl, rfl⟩)
      go_wp2_with fail
      go_roundg (l.length - (k + 1) + 1)
      case measure => omega
      case rel => exact ⟨k + 1, by omega, by omega, by go_num, by have hb := HB.out; ((with_reducible (repeat (first | exact bR _ _ | apply bS | apply bA | apply bD | refine bT ?_ (by assumption) ?_ | refine bO (by assumption) ?_ ?_))) <;> (first | omega | (simp <;> omega))), HN⟩
  · obtain rfl : k = l.length := by omega
    obtain rfl : R = true := by rw [← HJ.out, List.drop_length]; rfl
    go_wp2_with fail
    go_ret
    exact ⟨rfl, hb⟩
set_option maxHeartbeats 1000000 in
theorem at_any (l : List Vc) (A : Option Addr) (c : Nat) (w : World) (hA : VcAt w A l) (hl : l.length ≤ maxLen) :
  Calls Tryz.prog 29 #[.slice A l.length c] w fun e w' => e = .returned (.bool (l.all (nearV 1048576))) ∧ Below w.heap.size w w' := by
 have HA := hQ0 hA
 have HL := hQ0 hl
 clear hA hl
 go_enter Tryz.func29, Tryz.ntmps29; (try simp only [List.append_eq, List.cons_append, List.nil_append])
 go_wp2_with fail
 (go_at_call 26; refine (within_any 1048576 l A c _ HA.out HL.out (by omega) (by omega)).mono ?_; rintro e w1 ⟨rfl, hb⟩)
 go_wp2_with fail
 go_ret
 exact ⟨rfl, hb⟩
end Go.Proofs.YtbpcjpiaimdpnaaGreatDoor
namespace Go.Proofs.YtbpcjpiaimdpnaaGreatDoor
open Go
def byteAt (s : ByteArray) (i : Nat) : UInt8 := s.data.toList.getD i 0
theorem byteAt_eq {s : ByteArray} {i : Nat} (h : i < s.size) : s[i] = byteAt s i := by
 have : i < s.data.toList.length := by simpa using h
 simp only [byteAt, List.getD, List.getElem?_eq_getElem this, Option.getD_some]
 rfl
def letB (c : Int) : Bool := decide (97 ≤ c ∧ c ≤ 122)
def digB (c : Int) : Bool := decide (48 ≤ c ∧ c ≤ 57)
def cOf (s : ByteArray) (i : Nat) : Int := ((byteAt s i).toNat : Int)
theorem cOf_bd (s : ByteArray) (i : Nat) : 0 ≤ cOf s i ∧ cOf s i < 256 := by
 unfold cOf
 have := (byteAt s i).toNat_lt
 omega
def runTo (p : Int → Bool) (s : ByteArray) : Nat → Nat → Nat
  | 0, i => i
  | f + 1, i => if i < s.size ∧ p (cOf s i) = true then runTo p s f (i + 1) else i
def run (p : Int → Bool) (s : ByteArray) (i : Nat) : Nat := runTo p s (s.size - i) i
theorem run_step {p : Int → Bool} {s : ByteArray} {i : Nat} (h : i < s.size) (hp : p (cOf s i) = true) : run p s (i + 1) = run p s i := by
 unfold run
 have : s.size - i = (s.size - (i + 1)) + 1 := by omega
 rw [this]
 simp only [runTo, h, hp, and_self, if_true]
theorem run_stop {p : Int → Bool} {s : ByteArray} {i : Nat} (h : ¬ (i < s.size ∧ p (cOf s i) = true)) : run p s i = i := by
 unfold run
 cases hn : s.size - i with
 | zero => rfl
 | succ n => simp only [runTo, if_neg h]
theorem runTo_ge (p : Int → Bool) (s : ByteArray) : ∀ f i, i ≤ runTo p s f i
 | 0, i => Nat.le_refl _
 | f + 1, i => by
  unfold runTo
  split
  · have := runTo_ge p s f (i + 1); omega
  · exact Nat.le_refl _
theorem run_ge (p : Int → Bool) (s : ByteArray) (i : Nat) : i ≤ run p s i := runTo_ge _ _ _ _
theorem runTo_le (p : Int → Bool) (s : ByteArray) : ∀ f i, i ≤ s.size → runTo p s f i ≤ s.size
 | 0, i, h => h
 | f + 1, i, h => by
  unfold runTo
  split
  · rename_i hh; exact runTo_le p s f (i + 1) (by omega)
  · exact h
theorem run_le (p : Int → Bool) (s : ByteArray) {i : Nat} (h : i ≤ s.size) : run p s i ≤ s.size := runTo_le _ _ _ _ h
theorem runTo_mem (p : Int → Bool) (s : ByteArray) : ∀ f i j, i ≤ j → j < runTo p s f i → p (cOf s j) = true
 | 0, i, j, h, h' => by simp only [runTo] at h'; omega
 | f + 1, i, j, h, h' => by
  unfold runTo at h'
  split at h'
  · rename_i hh
    by_cases hij : i = j
    · subst hij; exact hh.2
    · exact runTo_mem p s f (i + 1) j (by omega) h'
  · omega
theorem run_mem {p : Int → Bool} {s : ByteArray} {i j : Nat} (h : i ≤ j) (h' : j < run p s i) : p (cOf s j) = true := runTo_mem _ _ _ _ _ h h'
theorem runTo_end (p : Int → Bool) (s : ByteArray) : ∀ f i, s.size - i ≤ f → runTo p s f i < s.size → p (cOf s (runTo p s f i)) = false
 | 0, i, h, h' => by simp only [runTo] at h'; omega
 | f + 1, i, h, h' => by
  unfold runTo at h' ⊢
  by_cases hh : i < s.size ∧ p (cOf s i) = true
  · rw [if_pos hh] at h' ⊢; exact runTo_end p s f (i + 1) (by omega) h'
  · rw [if_neg hh] at h' ⊢
    cases hp : p (cOf s i) with
    | true => exact absurd ⟨h', hp⟩ hh
    | false => rfl
theorem run_end {p : Int → Bool} {s : ByteArray} {i : Nat} (h : run p s i < s.size) : p (cOf s (run p s i)) = false := runTo_end _ _ _ _ (Nat.le_refl _) h
def alnumB (c : Int) : Bool := letB c || digB c
def notLf (c : Int) : Bool := !decide (c = 10)
def numTo (M : Int) (s : ByteArray) : Nat → Nat → Int → Int
  | 0, _, n => n
  | f + 1, i, n => if i < s.size ∧ digB (cOf s i) = true then numTo M s f (i + 1) (min (10 * n + (cOf s i - 48)) M) else n
def num (M : Int) (s : ByteArray) (i : Nat) (n : Int) : Int := numTo M s (s.size - i) i n
theorem num_step {M : Int} {s : ByteArray} {i : Nat} {n : Int} (h : i < s.size) (hp : digB (cOf s i) = true) : num M s (i + 1) (min (10 * n + (cOf s i - 48)) M) = num M s i n := by
 unfold num
 have : s.size - i = (s.size - (i + 1)) + 1 := by omega
 rw [this]
 simp only [numTo, h, hp, and_self, if_true]
theorem num_stop {M : Int} {s : ByteArray} {i : Nat} {n : Int} (h : ¬ (i < s.size ∧ digB (cOf s i) = true)) : num M s i n = n := by
 unfold num
 cases hn : s.size - i with
 | zero => rfl
 | succ k => simp only [numTo, if_neg h]
theorem numTo_rel (s : ByteArray) : ∀ f i (n n' : Int), 0 ≤ n → 0 ≤ n' → (n = n' ∧ n ≤ 1073741824 ∨ 1073741824 < n ∧ 1073741824 < n') →
  (numTo 2147483648 s f i n = numTo 1073741825 s f i n' ∧ numTo 2147483648 s f i n ≤ 1073741824 ∨ 1073741824 < numTo 2147483648 s f i n ∧ 1073741824 < numTo 1073741825 s f i n')
 | 0, _, n, n', _, _, h => by simp only [numTo]; exact h
 | f + 1, i, n, n', h0, h0', h => by
  unfold numTo
  by_cases hc : i < s.size ∧ digB (cOf s i) = true
  · rw [if_pos hc, if_pos hc]
    have hd : 48 ≤ cOf s i ∧ cOf s i ≤ 57 := by simpa [digB] using hc.2
    exact numTo_rel s f (i + 1) _ _ (by omega) (by omega) (by omega)
  · rw [if_neg hc, if_neg hc]; exact h
theorem num_rel (s : ByteArray) (i : Nat) : (num 2147483648 s i 0 = num 1073741825 s i 0 ∧ num 2147483648 s i 0 ≤ 1073741824 ∨ 1073741824 < num 2147483648 s i 0 ∧ 1073741824 < num 1073741825 s i 0) :=
 numTo_rel s _ i 0 0 (by omega) (by omega) (by omega)
theorem numTo_bd (M : Int) (hM : 0 ≤ M) (s : ByteArray) : ∀ f i (n : Int), 0 ≤ n → n ≤ M → 0 ≤ numTo M s f i n ∧ numTo M s f i n ≤ M
 | 0, _, n, h0, h1 => by simp only [numTo]; exact ⟨h0, h1⟩
 | f + 1, i, n, h0, h1 => by
  unfold numTo
  by_cases hc : i < s.size ∧ digB (cOf s i) = true
  · rw [if_pos hc]
    have hd : 48 ≤ cOf s i ∧ cOf s i ≤ 57 := by simpa [digB] using hc.2
    exact numTo_bd M hM s f (i + 1) _ (by omega) (by omega)
  · rw [if_neg hc]; exact ⟨h0, h1⟩
theorem num_bd (s : ByteArray) (i : Nat) : 0 ≤ num 1073741825 s i 0 ∧ num 1073741825 s i 0 ≤ 1073741825 := numTo_bd _ (by omega) s _ i 0 (by omega) (by omega)
inductive WR where
  | err (e : Int) (at_ : Nat)
  | ok (kind : Int) (text : ByteArray) (num : Int) (nx : Nat)
def wordR (s : ByteArray) (i : Nat) : WR :=
  if cOf s i = 59 then .ok 3 ⟨#[59]⟩ 0 (i + 1)
  else if letB (cOf s i) = true then
    if 12 < run alnumB s i - i then .err 6 i else .ok 1 (s.extract i (run alnumB s i)) 0 (run alnumB s i)
  else
    let f := if cOf s i = 45 then i + 1 else i
    let e := run digB s f
    let n := num 1073741825 s f 0
    if e = f then .err 4 i
    else if 1073741824 < n then .err 5 i
    else if e < s.size ∧ letB (cOf s e) = true then .err 4 e
    else .ok 2 (s.extract i e) (if cOf s i = 45 then -n else n) e
structure WV where
  kind : Int
  text : ByteArray
  num : Int
  at_ : Nat
def scanF (s : ByteArray) : Nat → Nat → List WV → List WV × Int × Nat
  | 0, _, acc => (acc, 0, 0)
  | f + 1, i, acc =>
    if i < s.size then
      if cOf s i = 32 ∨ cOf s i = 9 ∨ cOf s i = 10 then scanF s f (i + 1) acc
      else if cOf s i = 35 then scanF s f (run notLf s i) acc
      else match wordR s i with
        | .err e a => ([], e, a)
        | .ok k t n nx => scanF s f nx (acc ++ [⟨k, t, n, i⟩])
    else (acc, 0, 0)
def scanR (s : ByteArray) : List WV × Int × Nat := if 20000 < s.size then ([], 2, 0) else scanF s (s.size + 1) 0 []
theorem scanF_end {s : ByteArray} {f i : Nat} {acc : List WV} (h : ¬ i < s.size) : scanF s f i acc = (acc, 0, 0) := by
 cases f with
 | zero => rfl
 | succ f => simp only [scanF, if_neg h]
theorem wordR_ok {s : ByteArray} {i : Nat} (hi : i < s.size) {k : Int} {t : ByteArray} {n : Int} {nx : Nat} (h : wordR s i = .ok k t n nx) : i < nx ∧ nx ≤ s.size ∧ t.size = nx - i ∧ -1073741824 ≤ n ∧ n ≤ 1073741824 ∧ 1 ≤ k ∧ k ≤ 3 ∧ t = s.extract i nx := by
 unfold wordR at h
 by_cases h0 : cOf s i = 59
 · rw [if_pos h0] at h
   injection h with h1 h2 h3 h4
   subst h1 h2 h3 h4
   refine ⟨by omega, by omega, by have : ByteArray.size ⟨#[59]⟩ = 1 := rfl; omega, by omega, by omega, by omega, by omega, ?_⟩
   have hb : byteAt s i = 59 := by
    unfold cOf at h0
    exact UInt8.toNat_inj.1 (by simpa using (by omega : (byteAt s i).toNat = 59))
   apply ByteArray.ext
   rw [ByteArray.data_extract]
   apply Array.ext
   · simp; omega
   · intro j h1 h2
     simp at h1
     obtain rfl : j = 0 := by omega
     have := byteAt_eq hi
     simp only [Array.getElem_extract, Nat.add_zero]
     rw [hb] at this
     exact (show s.data[i] = 59 from this).symm
 · rw [if_neg h0] at h
   by_cases h1 : letB (cOf s i) = true
   · rw [if_pos h1] at h
     have hge : i + 1 ≤ run alnumB s i := by rw [← run_step hi (p := alnumB) (by simp [alnumB, h1])]; exact run_ge _ _ _
     have hle := run_le alnumB s (i := i) (by omega)
     split at h
     · cases h
     · injection h with e1 e2 e3 e4
       subst e1 e2 e3 e4
       refine ⟨by omega, hle, by simp [ByteArray.size_extract]; omega, by omega, by omega, by omega, by omega, rfl⟩
   · rw [if_neg h1] at h
     simp only at h
     generalize hf : (if cOf s i = 45 then i + 1 else i) = f at h
     have hfi : i ≤ f ∧ f ≤ s.size := by rw [← hf]; split <;> omega
     have hge := run_ge digB s f
     have hle := run_le digB s hfi.2
     have hn := num_bd s f
     split at h
     · cases h
     · split at h
       · cases h
       · split at h
         · cases h
         · rename_i g1 g2 g3
           injection h with e1 e2 e3 e4
           subst e1 e2 e3 e4
           refine ⟨by omega, hle, by simp [ByteArray.size_extract]; omega, ?_, ?_, by omega, by omega, rfl⟩ <;> split <;> omega
theorem wr_num0 {s : ByteArray} {i f : Nat} (hc : cOf s i ≠ 59) (hl : letB (cOf s i) = false) (hf : f = if cOf s i = 45 then i + 1 else i) :
  wordR s i = if run digB s f = f then .err 4 i else if 1073741824 < num 1073741825 s f 0 then .err 5 i
   else if run digB s f < s.size ∧ letB (cOf s (run digB s f)) = true then .err 4 (run digB s f)
   else .ok 2 (s.extract i (run digB s f)) (if cOf s i = 45 then -(num 1073741825 s f 0) else num 1073741825 s f 0) (run digB s f) := by
 unfold wordR
 rw [if_neg hc, if_neg (by rw [hl]; simp), ← hf]
theorem wr_nodig {s : ByteArray} {i f : Nat} (hc : cOf s i ≠ 59) (hl : letB (cOf s i) = false) (hf : f = if cOf s i = 45 then i + 1 else i) (he : run digB s f = f) : wordR s i = .err 4 i := by
 rw [wr_num0 hc hl hf, if_pos he]
theorem wr_range {s : ByteArray} {i f : Nat} (hc : cOf s i ≠ 59) (hl : letB (cOf s i) = false) (hf : f = if cOf s i = 45 then i + 1 else i) (he : run digB s f ≠ f) (hn : 1073741824 < num 1073741825 s f 0) : wordR s i = .err 5 i := by
 rw [wr_num0 hc hl hf, if_neg he, if_pos hn]
theorem wr_glued {s : ByteArray} {i f e : Nat} {n : Int} (hc : cOf s i ≠ 59) (hl : letB (cOf s i) = false) (hf : f = if cOf s i = 45 then i + 1 else i) (hr : run digB s f = e) (he : e ≠ f) (hv : num 1073741825 s f 0 = n) (hn : ¬ 1073741824 < n) (h1 : e < s.size) (h2 : letB (cOf s e) = true) : wordR s i = .err 4 e := by
 rw [wr_num0 hc hl hf, hr, hv, if_neg he, if_neg hn, if_pos ⟨h1, h2⟩]
theorem wr_num {s : ByteArray} {i f e : Nat} {n : Int} (hc : cOf s i ≠ 59) (hl : letB (cOf s i) = false) (hf : f = if cOf s i = 45 then i + 1 else i) (hr : run digB s f = e) (he : e ≠ f) (hv : num 1073741825 s f 0 = n) (hn : ¬ 1073741824 < n) (h1 : ¬ (e < s.size ∧ letB (cOf s e) = true)) : wordR s i = .ok 2 (s.extract i e) (if cOf s i = 45 then -n else n) e := by
 rw [wr_num0 hc hl hf, hr, hv, if_neg he, if_neg hn, if_neg h1]
theorem wordR_err {s : ByteArray} {i : Nat} {e : Int} {a : Nat} (h : wordR s i = .err e a) : 1 ≤ e ∧ e ≤ 12 := by
 unfold wordR at h
 split at h
 · cases h
 · split at h
   · split at h
     · injection h with h1 h2; omega
     · cases h
   · simp only at h
     generalize (if cOf s i = 45 then i + 1 else i) = f at h
     split at h
     · injection h with h1 h2; omega
     · split at h
       · injection h with h1 h2; omega
       · split at h
         · injection h with h1 h2; omega
         · cases h
theorem scan_blank {s : ByteArray} {f i : Nat} {acc : List WV} {R : List WV × Int × Nat} (h : scanF s f i acc = R) (hi : i < s.size) (hf : s.size - i < f) (hc : cOf s i = 32 ∨ cOf s i = 9 ∨ cOf s i = 10) : ∃ f', scanF s f' (i + 1) acc = R ∧ s.size - (i + 1) < f' := by
 cases f with
 | zero => omega
 | succ f => simp only [scanF, if_pos hi, if_pos hc] at h; exact ⟨f, h, by omega⟩
theorem scan_note {s : ByteArray} {f i : Nat} {acc : List WV} {R : List WV × Int × Nat} (h : scanF s f i acc = R) (hi : i < s.size) (hf : s.size - i < f) (hc : cOf s i = 35) : ∃ f', scanF s f' (run notLf s i) acc = R ∧ s.size - run notLf s i < f' := by
 cases f with
 | zero => omega
 | succ f =>
  have hn : ¬ (cOf s i = 32 ∨ cOf s i = 9 ∨ cOf s i = 10) := by omega
  simp only [scanF, if_pos hi, if_neg hn, if_pos hc] at h
  have hge : i + 1 ≤ run notLf s i := by rw [← run_step hi (p := notLf) (by simp [notLf]; omega)]; exact run_ge _ _ _
  exact ⟨f, h, by omega⟩
theorem scan_err {s : ByteArray} {f i : Nat} {acc : List WV} {R : List WV × Int × Nat} {e : Int} {a : Nat} (h : scanF s f i acc = R) (hi : i < s.size) (hf : s.size - i < f) (hc : ¬ (cOf s i = 32 ∨ cOf s i = 9 ∨ cOf s i = 10)) (hn : cOf s i ≠ 35) (hw : wordR s i = .err e a) : R = ([], e, a) := by
 cases f with
 | zero => omega
 | succ f => simp only [scanF, if_pos hi, if_neg hc, if_neg hn, hw] at h; exact h.symm
theorem scan_word {s : ByteArray} {f i : Nat} {acc : List WV} {R : List WV × Int × Nat} {k : Int} {t : ByteArray} {n : Int} {nx : Nat} (h : scanF s f i acc = R) (hi : i < s.size) (hf : s.size - i < f) (hc : ¬ (cOf s i = 32 ∨ cOf s i = 9 ∨ cOf s i = 10)) (hn : cOf s i ≠ 35) (hw : wordR s i = .ok k t n nx) :
  ∃ f', scanF s f' nx (acc ++ [⟨k, t, n, i⟩]) = R ∧ s.size - nx < f' := by
 cases f with
 | zero => omega
 | succ f =>
  simp only [scanF, if_pos hi, if_neg hc, if_neg hn, hw] at h
  have := wordR_ok hi hw
  exact ⟨f, h, by omega⟩
end Go.Proofs.YtbpcjpiaimdpnaaGreatDoor
