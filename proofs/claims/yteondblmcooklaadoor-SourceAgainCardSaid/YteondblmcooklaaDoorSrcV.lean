/- The examples of the chapter: pinballlaw08.awake returns true. -/
import Derived.Test.YteondblmcooklaaDoorSrcL
namespace Go.Proofs.YteondblmcooklaaDoor
open Go Go.RowKit
set_option linter.unusedVariables false
def exA : ByteArray := ⟨#[112, 111, 115, 116, 32, 112, 32, 99, 101, 110, 116, 101, 114, 32, 51, 32, 52, 32, 115, 105, 122, 101, 32, 50, 59]⟩
def exB : ByteArray := ⟨#[119, 97, 108, 108, 32, 119, 32, 109, 105, 114, 114, 111, 114, 59]⟩
def exC : ByteArray := ⟨#[112, 111, 115, 116, 32, 112, 32, 99, 101, 110, 116, 101, 114, 32, 51, 32, 52, 32, 115, 105, 122, 101, 32, 50, 59, 10]⟩
def exX : IV := ⟨⟨#[112, 111, 115, 116]⟩, ⟨#[112]⟩, [⟨⟨#[99, 101, 110, 116, 101, 114]⟩, [3, 4], 7⟩, ⟨⟨#[115, 105, 122, 101]⟩, [2], 18⟩], 0⟩
set_option maxRecDepth 100000 in
theorem ex1 : parseR exA = ([exX], 0, 0) := by kernel_rfl
set_option maxRecDepth 100000 in
theorem ex2 : parseR exB = ([], 4, 7) := by kernel_rfl
set_option maxRecDepth 100000 in
theorem ex3 : fmtR [exX] = (exC, true) := by kernel_rfl
theorem ex4 : getR exX.keys ⟨#[99, 101, 110, 116, 101, 114]⟩ = some [3, 4] := by kernel_rfl
theorem ex5 : arR ⟨#[102, 108, 105, 112, 112, 101, 114]⟩ ⟨#[114, 97, 110, 103, 101]⟩ = 2 := by kernel_rfl
theorem ex6 : arR ⟨#[119, 97, 108, 108]⟩ ⟨#[109, 105, 114, 114, 111, 114]⟩ = -1 := by kernel_rfl
theorem ex7 : (textB [exX]).length ≤ 1000000000 := of_decide_eq_true (by kernel_rfl)
theorem ex8 : ∀ x ∈ [exX], okF x := by
  intro x hx
  rw [List.mem_singleton] at hx
  subst hx
  refine ⟨⟨by decide, ?_⟩, ?_⟩ <;> decide
theorem xs_one {w : World} {A : Option Addr} {x : IV} (h : XsAt w A [x]) : ∃ g o B d, A = some ⟨g, o, none⟩ ∧ g < w.heap.size ∧ (w.cell? ⟨g, o, none⟩ = some (.string x.word) ∧ w.cell? ⟨g, o + 1, none⟩ = some (.string x.name) ∧ w.cell? ⟨g, o + 2, none⟩ = some (.slice B x.keys.length d) ∧ w.cell? ⟨g, o + 3, none⟩ = some (.int .i64 x.at_)) ∧ KsAt w B x.keys := by
  obtain ⟨g, o, B, d, hA, hg, hc, hk⟩ := h 0 x rfl
  simp only [Nat.zero_mul, Nat.add_zero] at hc
  exact ⟨g, o, B, d, hA, hg, hc, hk⟩
set_option maxRecDepth 100000 in
set_option maxHeartbeats 4000000 in
theorem awake08_any (w : World) (ht : Tabs w) : Calls Tryd.prog 8 #[] w fun e w' => e = .returned (.bool true) ∧ Below w.heap.size w w' := by
  have h3 := ht.three
  have HT := Lib.hid ht
  clear ht
  have K1 := fun (W : World) (h : Tabs W) => by have := parse_any exA W (by decide) h; rw [ex1] at this; exact this
  have K2 := fun (W : World) (h : Tabs W) => by have := parse_any exB W (by decide) h; rw [ex2] at this; exact this
  have K3 := fun (A : Option Addr) (c : Nat) (W : World) (h1 : XsAt W A [exX]) (h : Tabs W) => by have := format_any [exX] A c W h1 h (by decide) ex8 ex7; rw [ex3] at this; exact this
  have K4 := fun (B : Option Addr) (d : Nat) (W : World) (h : KsAt W B exX.keys) => by have := get_any exX B d ⟨#[99, 101, 110, 116, 101, 114]⟩ W h (by decide) (by decide); rw [ex4] at this; exact this
  have K5 := fun (W : World) (h : Tabs W) => by have := arity_any ⟨#[102, 108, 105, 112, 112, 101, 114]⟩ ⟨#[114, 97, 110, 103, 101]⟩ W h; rw [ex5] at this; exact this
  have K6 := fun (W : World) (h : Tabs W) => by have := arity_any ⟨#[119, 97, 108, 108]⟩ ⟨#[109, 105, 114, 114, 111, 114]⟩ W h; rw [ex6] at this; exact this
  have KK1 := Lib.hid K1
  have KK2 := Lib.hid K2
  have KK3 := Lib.hid K3
  have KK4 := Lib.hid K4
  have KK5 := Lib.hid K5
  have KK6 := Lib.hid K6
  clear K1 K2 K3 K4 K5 K6
  have b1 : (exC.toList == [112, 111, 115, 116, 32, 112, 32, 99, 101, 110, 116, 101, 114, 32, 51, 32, 52, 32, 115, 105, 122, 101, 32, 50, 59, 10]) = true := txt_eqL rfl
  go_enter Tryd.func8, Tryd.ntmps8; (try simp only [List.append_eq, List.cons_append, List.nil_append])
  go_wp2_with (first | (go_at_call 9; have hq := hb1; refine (KK2.out _ (HT.out.below hb1 h3)).mono ?_; rintro e w2 ⟨hb2, A2, c2, rfl, hx2⟩; have hz2 := hb2.size) | (go_at_call 9; refine (KK1.out _ HT.out).mono ?_; rintro e w1 ⟨hb1, A1, c1, rfl, hx1⟩; have hz1 := hb1.size) | (go_at_call 19; refine (KK3.out _ _ _ (hx1.at.below hb2 (Nat.le_refl _)) ((HT.out.below hb1 h3).below hb2 (by omega))).mono ?_; rintro e w3 ⟨rfl, hb3⟩; have hz3 := hb3.size; obtain ⟨g, o, B, d, rfl, hg, ⟨q0, q1, q2, q3⟩, hk3⟩ := xs_one (hx1.at.below (hb2.trans (hb3.mono (by omega))) (Nat.le_refl _))) | (go_at_call 15; refine (KK4.out _ _ _ hk3).mono ?_; rintro e w4 ⟨hb4, A4, c4, rfl, ho4⟩; have hz4 := hb4.size; obtain ⟨g4, o4, rfl, hg4, r4⟩ := ho4.iat 1 4 rfl) | (go_at_call 17; have hq := hb5; refine (KK6.out _ (((((HT.out.below hb1 h3).below hb2 (by omega)).below hb3 (by omega)).below hb4 (by omega)).below hb5 (by omega))).mono ?_; rintro e w6 ⟨rfl, hb6⟩; have hz6 := hb6.size) | (go_at_call 17; refine (KK5.out _ ((((HT.out.below hb1 h3).below hb2 (by omega)).below hb3 (by omega)).below hb4 (by omega))).mono ?_; rintro e w5 ⟨rfl, hb5⟩; have hz5 := hb5.size))
  go_ret
  exact ⟨rfl, ((((hb1.trans (hb2.mono (by omega))).trans (hb3.mono (by omega))).trans (hb4.mono (by omega))).trans (hb5.mono (by omega))).trans (hb6.mono (by omega))⟩
end Go.Proofs.YteondblmcooklaaDoor
