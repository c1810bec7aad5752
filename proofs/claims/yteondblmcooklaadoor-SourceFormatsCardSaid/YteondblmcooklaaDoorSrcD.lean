/- The values of a key: source.Get and the reference's. -/
import Derived.Test.YteondblmcooklaaDoorSrcB
import Derived.Test.YteondblmcooklaaDoorSrcC
namespace Go.Proofs.YteondblmcooklaaDoor
open Go Go.RowKit
set_option linter.unusedVariables false
def CIOut (l : List Int) (w : World) (e : Ending) (w' : World) : Prop := Below w.heap.size w w' ∧ ∃ A c, e = .returned (.slice A l.length c) ∧ w'.ownsRow w.heap.size 3 1 (.slice A l.length c) l.length (l.map (Value.int .i64))
theorem clonei_any (l : List Int) (A : Option Addr) (c : Nat) (w : World) (hl : l.length ≤ 1000) (hV : IAt w A l) :
    Calls Tryd.prog 29 #[.slice A l.length c] w (CIOut l w) := by
  rcases A with _ | a
  · have hnil : l = [] := by
      cases l with
      | nil => rfl
      | cons x l => obtain ⟨g, o, hA, _⟩ := hV 0 x rfl; cases hA
    subst hnil
    exact (Tryd.slices_Clone_int_nil 0 c w).mono fun e w' ⟨he, hw⟩ => by subst hw; exact ⟨Below.refl _ _, none, 0, he, World.ownsRow_nil _ _ _ _⟩
  · rcases Nat.eq_zero_or_pos l.length with h0 | h0
    · obtain rfl := List.length_eq_zero_iff.1 h0
      refine (Tryd.slices_Clone_int_zero a c w).mono fun e w' ⟨v', he, ho, _, hb⟩ => ?_
      obtain ⟨A', c', rfl⟩ := own_sl ho
      exact ⟨hb, A', c', he, ho⟩
    · obtain ⟨x0, hx0⟩ : ∃ x, l[0]? = some x := ⟨l[0], by simp⟩
      obtain ⟨g, o, hA, _, _⟩ := hV 0 x0 hx0
      obtain rfl : a = ⟨g, o, none⟩ := Option.some.inj hA
      refine (Tryd.slices_Clone_int g o l.length c l w (Nat.le_refl _) (by omega) (fun j hj => ?_)).mono fun e w' ⟨v', he, ho, _, hb⟩ => ?_
      · obtain ⟨x, hx⟩ : ∃ x, l[j]? = some x := ⟨l[j], by simp⟩
        obtain ⟨g', o', hA', _, h1⟩ := hV j x hx
        have e := Option.some.inj hA'
        simp only [Addr.mk.injEq, and_true] at e
        obtain ⟨rfl, rfl⟩ := e
        rw [h1, List.getD_eq_getElem?_getD, hx]; rfl
      · rw [List.take_length] at ho
        obtain ⟨A', c', rfl⟩ := own_sl ho
        exact ⟨hb, A', c', he, ho⟩
def vOfX (x : IV) (B : Option Addr) (d : Nat) : Value := .agg #[.string x.word, .string x.name, .slice B x.keys.length d, .int .i64 x.at_]
def vOfK (x : KV) (B : Option Addr) (d : Nat) : Value := .agg #[.string x.key, .slice B x.vals.length d, .int .i64 x.at_]
def GetOut (R : Option (List Int)) (w : World) (e : Ending) (w' : World) : Prop := Below w.heap.size w w' ∧ match R with
  | none => e = .returned (.tuple #[.slice none 0 0, .bool false])
  | some vs => ∃ A c, e = .returned (.tuple #[.slice A vs.length c, .bool true]) ∧ OwnI w' w.heap.size A c vs
theorem getR_step {l : List KV} {k : Nat} {p : KV} {key : ByteArray} (hk : l[k]? = some p) : getR (l.drop k) key = if p.key = key then some p.vals else getR (l.drop (k + 1)) key := by
  obtain ⟨hlt, rfl⟩ := List.getElem?_eq_some_iff.1 hk
  rw [List.drop_eq_getElem_cons hlt]
  unfold getR
  rw [List.find?_cons]
  by_cases h : l[k].key = key
  · simp [h]
  · simp [h]
set_option maxHeartbeats 1000000 in
theorem get_any (x : IV) (B : Option Addr) (d : Nat) (key : ByteArray) (w : World) (hK : KsAt w B x.keys) (hl : x.keys.length ≤ 1000000) (hv : ∀ k ∈ x.keys, k.vals.length ≤ 1000) :
    Calls Tryd.prog 15 #[vOfX x B d, .string key] w (GetOut (getR x.keys key) w) := by
  obtain ⟨ks, hks⟩ : ∃ ks, ks = x.keys := ⟨_, rfl⟩
  obtain ⟨R, hR⟩ : ∃ R, R = getR ks key := ⟨_, rfl⟩
  unfold vOfX
  rw [← hks] at hK hl hv ⊢
  rw [← hR]
  have HR : Hid (getR (ks.drop 0) key = R) := Lib.hid (by rw [hR]; rfl)
  have HK := Lib.hid hK
  have HV := Lib.hid hv
  clear hR hks hK hv
  go_enter Tryd.func15, Tryd.ntmps15; (try simp only [List.append_eq, List.cons_append, List.nil_append])
  go_wp2_with fail
  go_loopw [11] (fun t wr => ∃ k : Nat, k ≤ ks.length ∧ t = .int .i64 k ∧ Below w.heap.size w wr ∧ Hid (getR (ks.drop k) key = R)) (fun t _ => ks.length - (intOf t).toNat)
  case atStart => exact ⟨0, by omega, rfl, (by ((with_reducible (repeat (first | exact bR _ _ | refine bS ?_ ?_ _ | refine bA ?_ ?_ _ | refine bD ?_ | refine bT ?_ (by assumption) ?_ | refine bO (by assumption) ?_ ?_))) <;> (first | omega | (simp; done) | (simp <;> omega)))), HR⟩
  case round =>
    obtain ⟨k, hk, rfl, hb_wr, HJ⟩ := hrel
    have hz_wr := hb_wr.size
    by_cases hlt : k < ks.length
    · obtain ⟨p, hp⟩ : ∃ p, ks[k]? = some p := ⟨ks[k], by simp⟩
      obtain ⟨g, o, C, q, rfl, hg, ⟨c0, c1, c2⟩, hI⟩ := (HK.out.below hb_wr (Nat.le_refl _)) k p hp
      have hst := getR_step (key := key) hp
      have HI := Lib.hid hI
      have HB := Lib.hid hb_wr
      have i1 : (k : Int) < (ks.length : Int) := by omega
      have hvl := HV.out p (List.mem_of_getElem? hp)
      clear hI hb_wr
      by_cases he : p.key = key
      · rw [if_pos he] at hst
        have b1 : (p.key.toList == key.toList) = true := by rw [he]; exact beq_self_eq_true _
        obtain rfl : R = some p.vals := by rw [← HJ.out]; exact hst
        clear hst he HJ HR
        have K := fun (W : World) (h : IAt W C p.vals) => clonei_any p.vals C q W hvl h
        go_wp2_with (go_at_call 29; refine (K _ (HI.out.below (by ((with_reducible (repeat (first | exact bR _ _ | refine bS ?_ ?_ _ | refine bA ?_ ?_ _ | refine bD ?_ | refine bT ?_ (by assumption) ?_ | refine bO (by assumption) ?_ ?_))) <;> (first | omega | (simp; done) | (simp <;> omega)))) (Nat.le_refl _))).mono ?_; rintro e w2 ⟨hb_w2, A, c, rfl, ho⟩)
        go_ret2
        have hs2 : wr.heap.size ≤ wr.heap.size + 1 := by omega
        refine ⟨(HB.out.alloc hz_wr _).trans (hb_w2.mono (by simp; omega)), A, c, rfl, OwnI.weaker ho (by simp; omega)⟩
      · rw [if_neg he] at hst
        have b1 : (p.key.toList == key.toList) = false := txt_neT he
        have hnx := Lib.hid (hst.symm.trans HJ.out)
        clear hst he HR HJ
        go_wp2_with fail
        go_roundw
        case rel => exact ⟨k + 1, by omega, by go_num, HB.out.alloc hz_wr _, hnx⟩
        case measure => simp [intOf]; omega
    · obtain rfl : k = ks.length := by omega
      obtain rfl : R = none := by rw [← HJ.out, List.drop_length]; rfl
      go_wp2_with fail
      go_ret2
      exact ⟨hb_wr, rfl⟩
end Go.Proofs.YteondblmcooklaaDoor
