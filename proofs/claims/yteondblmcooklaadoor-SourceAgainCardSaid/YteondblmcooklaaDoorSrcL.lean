/- The contract of source.Format. -/
import Derived.Test.YteondblmcooklaaDoorSrcK
import Derived.Test.YteondblmcooklaaDoorSrcQ
namespace Go.Proofs.YteondblmcooklaaDoor
open Go Go.RowKit
set_option linter.unusedVariables false
theorem ownF_below {w w1 : World} {base B : Nat} {e : TypeId} {size n : Nat} {v : Value} {xs : List Value} (h : w.ownsRowF base e size v n xs) (hb : Below B w w1) (hB : w.heap.size ≤ B) : w1.ownsRowF base e size v n xs := by
  obtain ⟨h1, h2⟩ := h
  refine ⟨h1, ?_⟩
  rcases h2 with h2 | ⟨g, cap, cur, fz, hv, hg, hh, r⟩
  · exact .inl h2
  · exact .inr ⟨g, cap, cur, fz, hv, hg, by rw [hb.block g (by have := (Array.getElem?_eq_some_iff.1 hh).1; omega)]; exact hh, r⟩
theorem isbF_below {T e : TypeId} {B b N : Nat} {bs : List Value} {w w' : World} (h : Lib.IsBuilderF T e B b bs w) (hb : Below N w w') (hN : w.heap.size ≤ N) : Lib.IsBuilderF T e B b bs w' := by
  have go : ∀ p, Lib.BuilderAtF T e B b p bs w → Lib.BuilderAtF T e B b p bs w' := fun p h => by
    obtain ⟨hB, v, hbk, hown, hne⟩ := h
    have hlt := (Array.getElem?_eq_some_iff.1 hbk).1
    exact ⟨hB, v, (hb.block b (Nat.lt_of_lt_of_le hlt hN)).trans hbk, ownF_below hown hb hN, hne⟩
  exact h.elim (fun h => .inl (go _ h)) (fun h => .inr (go _ h))
abbrev WB (b : Nat) (bs : List UInt8) (w : World) : Prop := Lib.IsBuilder 81 5 b b (Lib.byteCells bs) w
theorem wr_any (b : Nat) (bs : List UInt8) (s : ByteArray) (w : World) (h : WB b bs w) (hlen : bs.length + s.size ≤ 2000000000) (hBw : b ≤ w.heap.size) :
    Calls Tryd.prog 33 #[.pointer (some ⟨b, 0, none⟩), .string s] w fun e w' => e = .returned (.tuple #[.int .i64 s.size, .nilIface]) ∧ WB b (bs ++ s.data.toList) w' ∧ Below b w w' ∧ Kept b w w' := by
  refine (writes_any b b (Lib.byteCells bs) s w h (by rw [Lib.byteCells_length]; omega) hBw).mono ?_
  rintro e w' ⟨he, h1, h2, h3⟩
  refine ⟨he, ?_, h2, h3⟩
  show Lib.IsBuilder _ _ _ _ (Lib.byteCells (bs ++ s.data.toList)) w'
  rw [Lib.byteCells_append, ← Lib.strCells_eq]
  exact h1
def okF (x : IV) : Prop := okX x ∧ ∀ k ∈ x.keys, ∀ n ∈ k.vals, -9223372036854775808 ≤ n ∧ n ≤ 9223372036854775807
theorem flat_take {α : Type} (f : α → List UInt8) {l : List α} {k : Nat} {x : α} (h : l[k]? = some x) : (l.take (k + 1)).flatMap f = (l.take k).flatMap f ++ f x := by
  rw [List.take_add_one, h]
  simp
theorem flat_le {α : Type} (f : α → List UInt8) (l : List α) (k : Nat) : ((l.take k).flatMap f).length ≤ (l.flatMap f).length := by
  conv => rhs; rw [← List.take_append_drop k l]
  rw [List.flatMap_append, List.length_append]
  omega
theorem flat_le1 {α : Type} (f : α → List UInt8) {l : List α} {k : Nat} {x : α} (h : l[k]? = some x) : ((l.take k).flatMap f).length + (f x).length ≤ (l.flatMap f).length := by
  have := flat_le f l (k + 1)
  rw [flat_take f h, List.length_append] at this
  exact this
theorem str_add (b : ByteArray) : ((⟨#[32]⟩ : ByteArray) ++ b).data.toList = 32 :: b.data.toList := by
  rw [ByteArray.data_append, Array.toList_append]; rfl
theorem str_addsize (b : ByteArray) : ((⟨#[32]⟩ : ByteArray) ++ b).size = b.size + 1 := by
  rw [ByteArray.size_append]; show 1 + b.size = _; omega
def FmtOut (R : ByteArray × Bool) (w : World) (e : Ending) (w' : World) : Prop := e = .returned (.tuple #[.string R.1, .bool R.2]) ∧ Below w.heap.size w w'
set_option maxRecDepth 100000 in
set_option maxHeartbeats 8000000 in
theorem format_any (l : List IV) (A : Option Addr) (c : Nat) (w : World) (hA : XsAt w A l) (ht : Tabs w) (hl : l.length ≤ 1000000) (hok : ∀ x ∈ l, okF x) (hsz : (textB l).length ≤ 1000000000) :
    Calls Tryd.prog 19 #[.slice A l.length c] w (FmtOut (fmtR l) w) := by
  have h3 := ht.three
  have HA := Lib.hid hA
  have HK := Lib.hid hok
  have HT := Lib.hid ht
  have HS := Lib.hid hsz
  have hwb0 : WB w.heap.size (textB (l.take 0)) (w.alloc (.cells #[.pointer none, .slice none 0 0] 81)) := Lib.fresh_isBuilder _ _ _
  have HW0 := Lib.hid hwb0
  clear hA hok ht hsz hwb0
  go_enter Tryd.func19, Tryd.ntmps19; (try simp only [List.append_eq, List.cons_append, List.nil_append])
  go_wp2_with fail
  go_loopw [16] (fun t wr => ∃ k : Nat, k ≤ l.length ∧ t = .int .i64 k ∧ w.heap.size + 1 ≤ wr.heap.size ∧ Below w.heap.size w wr ∧ Hid (WB w.heap.size (textB (l.take k)) wr)) (fun t _ => l.length - (intOf t).toNat)
  case atStart => exact ⟨0, by omega, rfl, by simp, (by ((with_reducible (repeat (first | exact bR _ _ | refine bS ?_ ?_ _ | refine bA ?_ ?_ _ | refine bD ?_ | refine bT ?_ (by assumption) ?_ | refine bO (by assumption) ?_ ?_))) <;> (first | omega | (simp; done) | (simp <;> omega)))), HW0⟩
  case round =>
    obtain ⟨k, hk, rfl, hs_wr, hb_wr, HW⟩ := hrel
    have hz_wr := hb_wr.size
    by_cases hlt : k < l.length
    · obtain ⟨x, hx⟩ : ∃ x, l[k]? = some x := ⟨l[k], by simp⟩
      obtain ⟨g, o, C, q, rfl, hg, ⟨c0, c1, c2, c3⟩, hI⟩ := HA.out k x hx
      replace c0 := (hb_wr.cell (p := ⟨g, o + k * 4, none⟩) hg).trans c0
      replace c1 := (hb_wr.cell (p := ⟨g, o + k * 4 + 1, none⟩) hg).trans c1
      replace c2 := (hb_wr.cell (p := ⟨g, o + k * 4 + 2, none⟩) hg).trans c2
      replace c3 := (hb_wr.cell (p := ⟨g, o + k * 4 + 3, none⟩) hg).trans c3
      have hg' : g < wr.heap.size := by omega
      have hokx := HK.out x (List.mem_of_getElem? hx)
      have hxl : (textB (l.take k)).length + (itemB x).length ≤ 1000000000 := Nat.le_trans (flat_le1 itemB hx) HS.out
      have hxe : (itemB x).length = (headB x).length + (x.keys.flatMap keyB).length + 2 := by unfold itemB; simp only [List.length_append, List.length_cons, List.length_nil]
      have i1 : (k : Int) < (l.length : Int) := by omega
      obtain ⟨⟨hkl, hvl⟩, hrg⟩ := hokx
      have HI := Lib.hid hI
      have HB := Lib.hid hb_wr
      have HWa : Hid (WB w.heap.size (textB (l.take k)) (wr.alloc (.cells #[.string x.word, .string x.name, .slice C x.keys.length q, .int .i64 x.at_] 35))) := Lib.hid (isb_below HW.out ((Below.refl wr.heap.size wr).alloc (Nat.le_refl _) _) (Nat.le_refl _))
      have HX := Lib.hid (CX.new wr #[.string x.word, .string x.name, .slice C x.keys.length q, .int .i64 x.at_] 35)
      clear hI hb_wr
      by_cases hn : x.name = ⟨#[]⟩
      · have b1 : (x.name.toList == []) = true := txt_eqL hn
        have hh : headB x = x.word.data.toList := by unfold headB; rw [if_pos hn, List.append_nil]
        have hhl : (headB x).length = x.word.size := by rw [hh, Array.length_toList]; rfl
        clear hn
        go_wp2_with (go_at_call 33; refine (wr_any _ _ x.word _ HWa.out (by omega) (by simp; omega)).mono ?_; rintro e w1 ⟨rfl, hw1, hb1, hk1⟩; obtain ⟨d0, d1, d2, d3, dz, dl⟩ := (HX.out.kept hk1 (by omega) (by decide)).c4)
        rw [← hh] at hw1
        have hbm : Below w.heap.size w w1 := (HB.out.alloc hz_wr _).trans hb1
        have hsm : w.heap.size + 1 ≤ w1.heap.size := by have := hb1.size; simp at this; omega
        have HM := Lib.hid hw1
        clear hw1 hb1 hk1 HX HWa
        have hz_m := hbm.size
        go_loopw [33] (fun t wr => ∃ j : Nat, j ≤ x.keys.length ∧ t = .int .i64 j ∧ w.heap.size + 1 ≤ wr.heap.size ∧ Below w.heap.size w wr ∧ Hid (WB w.heap.size (textB (l.take k) ++ headB x ++ (x.keys.take j).flatMap keyB) wr)) (fun t _ => x.keys.length - (intOf t).toNat)
        case atStart => exact ⟨0, by omega, rfl, hsm, hbm, Lib.hid (by simpa using HM.out)⟩
        case round =>
          obtain ⟨j, hj, rfl, hs2, hb2, HW2⟩ := hrel
          have hz2 := hb2.size
          by_cases hjl : j < x.keys.length
          · obtain ⟨y, hy⟩ : ∃ y, x.keys[j]? = some y := ⟨x.keys[j], by simp⟩
            obtain ⟨g2, o2, C2, q2, rfl, hg2, ⟨e0, e1, e2⟩, hI2⟩ := HI.out j y hy
            replace e0 := (hb2.cell (p := ⟨g2, o2 + j * 3, none⟩) hg2).trans e0
            replace e1 := (hb2.cell (p := ⟨g2, o2 + j * 3 + 1, none⟩) hg2).trans e1
            replace e2 := (hb2.cell (p := ⟨g2, o2 + j * 3 + 2, none⟩) hg2).trans e2
            have hg2' : g2 < wr.heap.size := by omega
            have hyl := flat_le1 keyB hy
            have hye : (keyB y).length = y.key.size + 1 + (valsB y.vals).length := by
              unfold keyB
              simp only [List.length_append, List.length_cons, Array.length_toList]
              show y.key.size + 1 + _ = _
              omega
            have i2 : (j : Int) < (x.keys.length : Int) := by omega
            have i3 : ¬ 9223372036854775807 < 1 + y.key.size := by omega
            have i3' : ¬ 9223372036854775807 < y.key.size + 1 := by omega
            have HI2 := Lib.hid hI2
            have HB2 := Lib.hid hb2
            have hvy := hvl y (List.mem_of_getElem? hy)
            have HRG := Lib.hid (hrg y (List.mem_of_getElem? hy))
            have HWb : Hid (WB w.heap.size (textB (l.take k) ++ headB x ++ (x.keys.take j).flatMap keyB) (wr.alloc (.cells #[.string y.key, .slice C2 y.vals.length q2, .int .i64 y.at_] 71))) := Lib.hid (isb_below HW2.out ((Below.refl wr.heap.size wr).alloc (Nat.le_refl _) _) (Nat.le_refl _))
            have HK2 := Lib.hid (CX.new wr #[.string y.key, .slice C2 y.vals.length q2, .int .i64 y.at_] 71)
            clear hI2 hb2
            go_wp2_with (go_at_call 33; refine (wr_any _ _ ((⟨#[32]⟩ : ByteArray) ++ y.key) _ HWb.out (by rw [str_addsize]; simp only [List.length_append]; omega) (by simp; omega)).mono ?_; rintro e w4 ⟨rfl, hw4, hb4, hk4⟩; obtain ⟨f0, f1, f2, fz, fl⟩ := (HK2.out.kept hk4 (by omega) (by decide)).c3)
            rw [str_add] at hw4
            have hb5 : Below w.heap.size w w4 := (HB2.out.alloc hz2 _).trans hb4
            have hs5 : w.heap.size + 1 ≤ w4.heap.size := by have := hb4.size; simp at this; omega
            have HW5 := Lib.hid hw4
            clear hw4 hb4 hk4 HK2 HWb
            go_loopw [44] (fun t wr => ∃ i : Nat, i ≤ y.vals.length ∧ t = .int .i64 i ∧ w.heap.size + 1 ≤ wr.heap.size ∧ Below w.heap.size w wr ∧ Hid (WB w.heap.size (textB (l.take k) ++ headB x ++ (x.keys.take j).flatMap keyB ++ 32 :: y.key.data.toList ++ valsB (y.vals.take i)) wr)) (fun t _ => y.vals.length - (intOf t).toNat)
            case atStart => exact ⟨0, by omega, rfl, hs5, hb5, Lib.hid (by simpa [valsB] using HW5.out)⟩
            case round =>
              obtain ⟨i, hi, rfl, hs6, hb6, HW6⟩ := hrel
              have hz6 := hb6.size
              by_cases hil : i < y.vals.length
              · obtain ⟨n, hn⟩ : ∃ n, y.vals[i]? = some n := ⟨y.vals[i], by simp⟩
                obtain ⟨g3, o3, rfl, hg3, r0⟩ := HI2.out i n hn
                replace r0 := (hb6.cell (p := ⟨g3, o3 + i, none⟩) hg3).trans r0
                have hg3' : g3 < wr.heap.size := by omega
                have i4 : (i : Int) < (y.vals.length : Int) := by omega
                have hnl := flat_le1 (fun n => 32 :: Lib.itoa n) hn
                simp only [List.length_cons] at hnl
                have hvb : (valsB y.vals).length = (y.vals.flatMap fun n => 32 :: Lib.itoa n).length := rfl
                have hvb2 : (valsB (y.vals.take i)).length = ((y.vals.take i).flatMap fun n => 32 :: Lib.itoa n).length := rfl
                obtain ⟨n0, n1⟩ := HRG.out n (List.mem_of_getElem? hn)
                obtain ⟨N, hN⟩ : ∃ N : ByteArray, N = ⟨(Lib.itoa n).toArray⟩ := ⟨_, rfl⟩
                have hNs : N.size = (Lib.itoa n).length := by rw [hN]; simp [ByteArray.size]
                have HNe := Lib.hid hN
                have i5 : ¬ 9223372036854775807 < 1 + N.size := by omega
                have i5' : ¬ 9223372036854775807 < N.size + 1 := by omega
                have KI := fun (W : World) (h : Tabs W) => itoa_any n n0 n1 W h
                rw [← hN] at KI
                have HB6 := Lib.hid hb6
                clear hN hb6 n0 n1
                go_wp2_with (first | (go_at_call 34; refine (KI _ (HT.out.below HB6.out h3)).mono ?_; rintro e w7 ⟨rfl, hb7⟩) | (go_at_call 33; refine (wr_any _ _ ((⟨#[32]⟩ : ByteArray) ++ N) _ (isb_below HW6.out hb7 (Nat.le_refl _)) (by rw [str_addsize]; simp only [List.length_append, List.length_cons, Array.length_toList]; show _ + (y.key.size + 1) + _ + _ ≤ _; omega) (by have := hb7.size; omega)).mono ?_; rintro e w8 ⟨rfl, hw8, hb8, hk8⟩))
                have hNd : N.data.toList = Lib.itoa n := by rw [HNe.out]
                have hva : valsB (y.vals.take (i + 1)) = valsB (y.vals.take i) ++ 32 :: Lib.itoa n := flat_take (fun n => 32 :: Lib.itoa n) hn
                rw [str_add, hNd] at hw8
                have hb9 := (HB6.out.trans (hb7.mono hz6)).trans hb8
                have hs9 : w.heap.size + 1 ≤ w8.heap.size := by have := hb7.size; have := hb8.size; omega
                go_roundw
                case rel => exact ⟨i + 1, by omega, by go_num, hs9, hb9, Lib.hid (by rw [hva, ← List.append_assoc]; exact hw8)⟩
                case measure => simp [intOf]; omega
              · obtain rfl : i = y.vals.length := by omega
                rw [List.take_length] at HW6
                go_wp2_with fail
                go_roundw
                case rel => exact ⟨j + 1, by omega, by go_num, hs6, hb6, Lib.hid (by rw [flat_take keyB hy, show keyB y = 32 :: y.key.data.toList ++ valsB y.vals from rfl, ← List.append_assoc, ← List.append_assoc]; exact HW6.out)⟩
                case measure => simp [intOf]; omega
          · obtain rfl : j = x.keys.length := by omega
            rw [List.take_length] at HW2
            have HB2 := Lib.hid hb2
            clear hb2
            go_wp2_with (go_at_call 33; refine (wr_any _ _ _ _ HW2.out (by simp only [List.length_append]; show _ + 2 ≤ _; omega) (by omega)).mono ?_; rintro e w4 ⟨rfl, hw4, hb4, hk4⟩)
            have hb5 := HB2.out.trans hb4
            have hs5 : w.heap.size + 1 ≤ w4.heap.size := by have := hb4.size; omega
            go_roundw
            case rel => exact ⟨k + 1, by omega, by go_num, hs5, hb5, Lib.hid (by show WB _ ((l.take (k + 1)).flatMap itemB) w4; rw [flat_take itemB hx, show itemB x = headB x ++ x.keys.flatMap keyB ++ [59, 10] from rfl, ← List.append_assoc, ← List.append_assoc]; exact hw4)⟩
            case measure => simp [intOf]; omega
      · have b1 : (x.name.toList == []) = false := txt_neL hn
        have hh : headB x = x.word.data.toList ++ 32 :: x.name.data.toList := by unfold headB; rw [if_neg hn]
        have hhl : (headB x).length = x.word.size + (x.name.size + 1) := by
          have e1 : x.word.data.toList.length = x.word.size := Array.length_toList
          have e2 : x.name.data.toList.length = x.name.size := Array.length_toList
          rw [hh, List.length_append, List.length_cons, e1, e2]
        have i9 : ¬ 9223372036854775807 < 1 + x.name.size := by omega
        have i9' : ¬ 9223372036854775807 < x.name.size + 1 := by omega
        clear hn
        go_wp2_with (first | (go_at_call 33; have hq := hw1; refine (wr_any _ _ ((⟨#[32]⟩ : ByteArray) ++ x.name) _ hw1 (by have e1 : x.word.data.toList.length = x.word.size := Array.length_toList; rw [str_addsize, List.length_append, e1]; omega) (by have := hb1.size; simp at this; omega)).mono ?_; rintro e w2 ⟨rfl, hw2, hb2, hk2⟩; obtain ⟨s0, s1, s2, s3, sz, sl⟩ := ((HX.out.kept hk1 (by omega) (by decide)).kept hk2 (by omega) (by decide)).c4) | (go_at_call 33; refine (wr_any _ _ x.word _ HWa.out (by omega) (by simp; omega)).mono ?_; rintro e w1 ⟨rfl, hw1, hb1, hk1⟩; obtain ⟨d0, d1, d2, d3, dz, dl⟩ := (HX.out.kept hk1 (by omega) (by decide)).c4))
        rw [str_add, List.append_assoc, ← hh] at hw2
        have hbm : Below w.heap.size w w2 := ((HB.out.alloc hz_wr _).trans hb1).trans hb2
        have hsm : w.heap.size + 1 ≤ w2.heap.size := by have := hb1.size; have := hb2.size; simp at *; omega
        have HM := Lib.hid hw2
        clear hw1 hb1 hk1 hw2 hb2 hk2 HX HWa d0 d1 d2 d3 dz dl s0 s1 s2 s3 sz sl
        have hz_m := hbm.size
        go_loopw [33] (fun t wr => ∃ j : Nat, j ≤ x.keys.length ∧ t = .int .i64 j ∧ w.heap.size + 1 ≤ wr.heap.size ∧ Below w.heap.size w wr ∧ Hid (WB w.heap.size (textB (l.take k) ++ headB x ++ (x.keys.take j).flatMap keyB) wr)) (fun t _ => x.keys.length - (intOf t).toNat)
        case atStart => exact ⟨0, by omega, rfl, hsm, hbm, Lib.hid (by simpa using HM.out)⟩
        case round =>
          obtain ⟨j, hj, rfl, hs2, hb2, HW2⟩ := hrel
          have hz2 := hb2.size
          by_cases hjl : j < x.keys.length
          · obtain ⟨y, hy⟩ : ∃ y, x.keys[j]? = some y := ⟨x.keys[j], by simp⟩
            obtain ⟨g2, o2, C2, q2, rfl, hg2, ⟨e0, e1, e2⟩, hI2⟩ := HI.out j y hy
            replace e0 := (hb2.cell (p := ⟨g2, o2 + j * 3, none⟩) hg2).trans e0
            replace e1 := (hb2.cell (p := ⟨g2, o2 + j * 3 + 1, none⟩) hg2).trans e1
            replace e2 := (hb2.cell (p := ⟨g2, o2 + j * 3 + 2, none⟩) hg2).trans e2
            have hg2' : g2 < wr.heap.size := by omega
            have hyl := flat_le1 keyB hy
            have hye : (keyB y).length = y.key.size + 1 + (valsB y.vals).length := by
              unfold keyB
              simp only [List.length_append, List.length_cons, Array.length_toList]
              show y.key.size + 1 + _ = _
              omega
            have i2 : (j : Int) < (x.keys.length : Int) := by omega
            have i3 : ¬ 9223372036854775807 < 1 + y.key.size := by omega
            have i3' : ¬ 9223372036854775807 < y.key.size + 1 := by omega
            have HI2 := Lib.hid hI2
            have HB2 := Lib.hid hb2
            have hvy := hvl y (List.mem_of_getElem? hy)
            have HRG := Lib.hid (hrg y (List.mem_of_getElem? hy))
            have HWb : Hid (WB w.heap.size (textB (l.take k) ++ headB x ++ (x.keys.take j).flatMap keyB) (wr.alloc (.cells #[.string y.key, .slice C2 y.vals.length q2, .int .i64 y.at_] 71))) := Lib.hid (isb_below HW2.out ((Below.refl wr.heap.size wr).alloc (Nat.le_refl _) _) (Nat.le_refl _))
            have HK2 := Lib.hid (CX.new wr #[.string y.key, .slice C2 y.vals.length q2, .int .i64 y.at_] 71)
            clear hI2 hb2
            go_wp2_with (go_at_call 33; refine (wr_any _ _ ((⟨#[32]⟩ : ByteArray) ++ y.key) _ HWb.out (by rw [str_addsize]; simp only [List.length_append]; omega) (by simp; omega)).mono ?_; rintro e w4 ⟨rfl, hw4, hb4, hk4⟩; obtain ⟨f0, f1, f2, fz, fl⟩ := (HK2.out.kept hk4 (by omega) (by decide)).c3)
            rw [str_add] at hw4
            have hb5 : Below w.heap.size w w4 := (HB2.out.alloc hz2 _).trans hb4
            have hs5 : w.heap.size + 1 ≤ w4.heap.size := by have := hb4.size; simp at this; omega
            have HW5 := Lib.hid hw4
            clear hw4 hb4 hk4 HK2 HWb
            go_loopw [44] (fun t wr => ∃ i : Nat, i ≤ y.vals.length ∧ t = .int .i64 i ∧ w.heap.size + 1 ≤ wr.heap.size ∧ Below w.heap.size w wr ∧ Hid (WB w.heap.size (textB (l.take k) ++ headB x ++ (x.keys.take j).flatMap keyB ++ 32 :: y.key.data.toList ++ valsB (y.vals.take i)) wr)) (fun t _ => y.vals.length - (intOf t).toNat)
            case atStart => exact ⟨0, by omega, rfl, hs5, hb5, Lib.hid (by simpa [valsB] using HW5.out)⟩
            case round =>
              obtain ⟨i, hi, rfl, hs6, hb6, HW6⟩ := hrel
              have hz6 := hb6.size
              by_cases hil : i < y.vals.length
              · obtain ⟨n, hn⟩ : ∃ n, y.vals[i]? = some n := ⟨y.vals[i], by simp⟩
                obtain ⟨g3, o3, rfl, hg3, r0⟩ := HI2.out i n hn
                replace r0 := (hb6.cell (p := ⟨g3, o3 + i, none⟩) hg3).trans r0
                have hg3' : g3 < wr.heap.size := by omega
                have i4 : (i : Int) < (y.vals.length : Int) := by omega
                have hnl := flat_le1 (fun n => 32 :: Lib.itoa n) hn
                simp only [List.length_cons] at hnl
                have hvb : (valsB y.vals).length = (y.vals.flatMap fun n => 32 :: Lib.itoa n).length := rfl
                have hvb2 : (valsB (y.vals.take i)).length = ((y.vals.take i).flatMap fun n => 32 :: Lib.itoa n).length := rfl
                obtain ⟨n0, n1⟩ := HRG.out n (List.mem_of_getElem? hn)
                obtain ⟨N, hN⟩ : ∃ N : ByteArray, N = ⟨(Lib.itoa n).toArray⟩ := ⟨_, rfl⟩
                have hNs : N.size = (Lib.itoa n).length := by rw [hN]; simp [ByteArray.size]
                have HNe := Lib.hid hN
                have i5 : ¬ 9223372036854775807 < 1 + N.size := by omega
                have i5' : ¬ 9223372036854775807 < N.size + 1 := by omega
                have KI := fun (W : World) (h : Tabs W) => itoa_any n n0 n1 W h
                rw [← hN] at KI
                have HB6 := Lib.hid hb6
                clear hN hb6 n0 n1
                go_wp2_with (first | (go_at_call 34; refine (KI _ (HT.out.below HB6.out h3)).mono ?_; rintro e w7 ⟨rfl, hb7⟩) | (go_at_call 33; refine (wr_any _ _ ((⟨#[32]⟩ : ByteArray) ++ N) _ (isb_below HW6.out hb7 (Nat.le_refl _)) (by rw [str_addsize]; simp only [List.length_append, List.length_cons, Array.length_toList]; show _ + (y.key.size + 1) + _ + _ ≤ _; omega) (by have := hb7.size; omega)).mono ?_; rintro e w8 ⟨rfl, hw8, hb8, hk8⟩))
                have hNd : N.data.toList = Lib.itoa n := by rw [HNe.out]
                have hva : valsB (y.vals.take (i + 1)) = valsB (y.vals.take i) ++ 32 :: Lib.itoa n := flat_take (fun n => 32 :: Lib.itoa n) hn
                rw [str_add, hNd] at hw8
                have hb9 := (HB6.out.trans (hb7.mono hz6)).trans hb8
                have hs9 : w.heap.size + 1 ≤ w8.heap.size := by have := hb7.size; have := hb8.size; omega
                go_roundw
                case rel => exact ⟨i + 1, by omega, by go_num, hs9, hb9, Lib.hid (by rw [hva, ← List.append_assoc]; exact hw8)⟩
                case measure => simp [intOf]; omega
              · obtain rfl : i = y.vals.length := by omega
                rw [List.take_length] at HW6
                go_wp2_with fail
                go_roundw
                case rel => exact ⟨j + 1, by omega, by go_num, hs6, hb6, Lib.hid (by rw [flat_take keyB hy, show keyB y = 32 :: y.key.data.toList ++ valsB y.vals from rfl, ← List.append_assoc, ← List.append_assoc]; exact HW6.out)⟩
                case measure => simp [intOf]; omega
          · obtain rfl : j = x.keys.length := by omega
            rw [List.take_length] at HW2
            have HB2 := Lib.hid hb2
            clear hb2
            go_wp2_with (go_at_call 33; refine (wr_any _ _ _ _ HW2.out (by simp only [List.length_append]; show _ + 2 ≤ _; omega) (by omega)).mono ?_; rintro e w4 ⟨rfl, hw4, hb4, hk4⟩)
            have hb5 := HB2.out.trans hb4
            have hs5 : w.heap.size + 1 ≤ w4.heap.size := by have := hb4.size; omega
            go_roundw
            case rel => exact ⟨k + 1, by omega, by go_num, hs5, hb5, Lib.hid (by show WB _ ((l.take (k + 1)).flatMap itemB) w4; rw [flat_take itemB hx, show itemB x = headB x ++ x.keys.flatMap keyB ++ [59, 10] from rfl, ← List.append_assoc, ← List.append_assoc]; exact hw4)⟩
            case measure => simp [intOf]; omega
    · obtain rfl : k = l.length := by omega
      rw [List.take_length] at HW
      have HB := Lib.hid hb_wr
      have hsz := HS.out
      obtain ⟨Tx, hTx⟩ : ∃ Tx : ByteArray, Tx = ⟨(textB l).toArray⟩ := ⟨_, rfl⟩
      have hTs : Tx.size ≤ 1000000000 := by rw [hTx]; exact hsz
      have KP := fun (W : World) (h : Tabs W) => parse_any Tx W (by unfold maxLen; omega) h
      obtain ⟨hP1, hP2⟩ := parseR_ok Tx okX (fun l' x r h1 h2 h3 => by
        have := scanR_len Tx
        have h4 := (itemF_len h3).2
        refine ⟨by omega, fun k hk => ?_⟩
        have := itemF_two h3 k hk
        omega)
      have hR : fmtR l = if (parseR Tx).2.1 ≠ 0 ∨ eqL eqX (parseR Tx).1 l = false then (⟨#[]⟩, false) else (Tx, true) := by rw [hTx]; rfl
      obtain ⟨⟨Lp, er, pp⟩, hPR⟩ : ∃ R, R = parseR Tx := ⟨_, rfl⟩
      rw [← hPR] at KP hP1 hP2 hR
      simp only at hP1 hP2 hR KP
      have HP2 := Lib.hid hP2
      have HTX := Lib.hid hTx
      have HRf := Lib.hid hR
      clear hP2 hPR hsz hR hb_wr hTx
      by_cases her : er = 0
      · subst her
        cases hEQ : eqL eqX Lp l
        · have hres := Lib.hid (HRf.out.trans (if_pos (.inr hEQ)))
          go_wp2_with (first | (go_at_call 35; refine (Tryd.Builder_String_any_f w.heap.size w.heap.size (textB l) _ (Lib.IsBuilderF.of HW.out) (by omega)).mono ?_; rintro e w1 ⟨rfl, hf1, hb1⟩; have hz1 := hb1.size; rw [← HTX.out]) | (go_at_call 9; refine (KP _ (HT.out.below (HB.out.trans hb1) h3)).mono ?_; rintro e w2 ⟨hb2, A2, c2, rfl, hx2⟩; have hz2 := hb2.size) | (go_at_call 36; refine (eqfx_any Lp l A2 A c2 c _ hx2.at (HA.out.below (HB.out.trans hb1 |>.trans (hb2.mono (by omega))) (Nat.le_refl _)) (by omega) (by omega) HP2.out (fun x hx => (HK.out x hx).1)).mono ?_; rintro e w3 ⟨rfl, hb3⟩; have hz3 := hb3.size; rw [hEQ]))
          go_ret2
          exact ⟨by rw [hres.out]; rfl, ((HB.out.trans hb1).trans (hb2.mono (by omega))).trans (hb3.mono (by omega))⟩
        · have hres := Lib.hid (HRf.out.trans (if_neg (by simp [hEQ])))
          go_wp2_with (first | (go_at_call 35; refine (Tryd.Builder_String_any_f w.heap.size w.heap.size (textB l) _ (Lib.IsBuilderF.of HW.out) (by omega)).mono ?_; rintro e w1 ⟨rfl, hf1, hb1⟩; have hz1 := hb1.size; rw [← HTX.out]) | (go_at_call 9; refine (KP _ (HT.out.below (HB.out.trans hb1) h3)).mono ?_; rintro e w2 ⟨hb2, A2, c2, rfl, hx2⟩; have hz2 := hb2.size) | (go_at_call 36; refine (eqfx_any Lp l A2 A c2 c _ hx2.at (HA.out.below (HB.out.trans hb1 |>.trans (hb2.mono (by omega))) (Nat.le_refl _)) (by omega) (by omega) HP2.out (fun x hx => (HK.out x hx).1)).mono ?_; rintro e w3 ⟨rfl, hb3⟩; have hz3 := hb3.size; rw [hEQ]) | (go_at_call 35; refine (Tryd.Builder_String_any_f w.heap.size w.heap.size (textB l) _ (isbF_below (isbF_below hf1 hb2 (Nat.le_refl _)) hb3 (Nat.le_refl _)) (by omega)).mono ?_; rintro e w4 ⟨rfl, hf4, hb4⟩; rw [← HTX.out]))
          go_ret2
          exact ⟨by rw [hres.out]; rfl, (((HB.out.trans hb1).trans (hb2.mono (by omega))).trans (hb3.mono (by omega))).trans hb4⟩
      · have hres := Lib.hid (HRf.out.trans (if_pos (.inl her)))
        go_wp2_with (first | (go_at_call 35; refine (Tryd.Builder_String_any_f w.heap.size w.heap.size (textB l) _ (Lib.IsBuilderF.of HW.out) (by omega)).mono ?_; rintro e w1 ⟨rfl, hf1, hb1⟩; have hz1 := hb1.size; rw [← HTX.out]) | (go_at_call 9; refine (KP _ (HT.out.below (HB.out.trans hb1) h3)).mono ?_; rintro e w2 ⟨hb2, A2, c2, rfl, hx2⟩; have hz2 := hb2.size))
        go_ret2
        exact ⟨by rw [hres.out]; rfl, (HB.out.trans hb1).trans (hb2.mono (by omega))⟩
end Go.Proofs.YteondblmcooklaaDoor
