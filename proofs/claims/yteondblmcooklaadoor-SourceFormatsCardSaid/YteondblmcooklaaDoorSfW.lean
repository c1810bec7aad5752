/- The contract of the reference's write. -/
import Derived.Test.YteondblmcooklaaDoorSfP
import Derived.Test.YteondblmcooklaaDoorDz1
import Derived.Test.YteondblmcooklaaDoorSrcX
import Derived.Test.YteondblmcooklaaDoorSrS
namespace Go.Proofs.YteondblmcooklaaDoor
open Go Go.RowKit
set_option linter.unusedVariables false
theorem itoa_len {n : Int} (h1 : -9223372036854775808 ≤ n) (h2 : n ≤ 9223372036854775807) : (Lib.itoa n).length ≤ 20 := by
  have hd := nDigits_le 18 n.natAbs (by show n.natAbs < 10000000000000000000; omega)
  unfold Lib.itoa
  split
  · rw [List.length_cons, Lib.decDigits_length]; omega
  · rw [Lib.decDigits_length, show n.toNat = n.natAbs by omega]; omega
def WriteOut (l : List IV) (w : World) (e : Ending) (w' : World) : Prop := Below w.heap.size w w' ∧ ∃ s : ByteArray, e = .returned (.string s) ∧ Wr s (rtextB l) ∧ s.size ≤ 20400
theorem take_next {α : Type} {f : α → List UInt8} {l : List α} {k : Nat} {x : α} (h : l[k]? = some x) : (l.take (k + 1)).flatMap f = (l.take k).flatMap f ++ f x := by
  rw [List.take_add_one, h]
  simp
theorem take_rest {α : Type} (f : α → List UInt8) (l : List α) (k : Nat) : l.flatMap f = (l.take k).flatMap f ++ (l.drop k).flatMap f := by
  rw [← List.flatMap_append, List.take_append_drop]
theorem bytes_size (l : List UInt8) : (⟨l.toArray⟩ : ByteArray).size = l.length := by show l.toArray.size = _; simp
theorem keyB_eq (k : KV) : keyB k = [32] ++ bytes k.key ++ valsB k.vals := rfl
theorem ritemB_eq (x : IV) : ritemB x = rheadB x ++ x.keys.flatMap keyB ++ [59, 10] := rfl
set_option maxRecDepth 100000 in
set_option maxHeartbeats 8000000 in
theorem rwrite_any (l : List IV) (A : Option Addr) (c : Nat) (w : World) (hA : XsAt w A l) (hf : fewB l = true) (hok : ∀ x ∈ l, okF x) :
    Calls Tryd.prog 38 #[.slice A l.length c] w (WriteOut l w) := by
  have HA := Lib.hid hA
  have HOK := Lib.hid hok
  have hfe : l.length ≤ 60 ∧ ∀ x ∈ l, fewX x = true := by
    unfold fewB at hf
    simpa using hf
  obtain ⟨hl60, hfx⟩ := hfe
  have HFX := Lib.hid hfx
  clear hA hok hf hfx
  go_enter Tryd.func38, Tryd.ntmps38; (try simp only [List.append_eq, List.cons_append, List.nil_append])
  go_wp2_with fail
  go_loopg [3, 4] (l.length + 1) (fun gk t3 t4 wr => ∃ (i : Nat) (s : ByteArray), i ≤ l.length ∧ l.length - i < gk ∧ t3 = .string s ∧ t4 = .int .i64 i ∧ s.size ≤ 20400 ∧ Below w.heap.size w wr ∧ Hid (Wr s (rtextB (l.take i))))
  case atStart => exact ⟨0, ⟨#[]⟩, by omega, by omega, rfl, rfl, by decide, Below.refl _ _, Lib.hid (.inl rfl)⟩
  case round =>
    obtain ⟨ws, rfl⟩ : ∃ z, z = wr := ⟨_, rfl⟩
    obtain ⟨i, s, hi, hik, rfl, rfl, hs4, hb_ws, HW⟩ := hrel
    by_cases hlt : i < l.length
    · have i1 : (i : Int) < (l.length : Int) := by omega
      by_cases hs2 : s.size ≤ 20000
      · obtain ⟨x, hx⟩ : ∃ x, l[i]? = some x := ⟨l[i], by simp⟩
        obtain ⟨g, o, C, q, rfl, hg, ⟨c0, c1, c2, c3⟩, hI⟩ := (HA.out.below hb_ws (Nat.le_refl _)) i x hx
        have hfw := HFX.out x (List.mem_of_getElem? hx)
        have HFW : Hid (∀ k ∈ x.keys, k.key.size ≤ 100 ∧ k.vals.length ≤ 30) := by
          unfold fewX fewK at hfw
          simp only [Bool.and_eq_true, List.all_eq_true, decide_eq_true_eq] at hfw
          exact Lib.hid fun k hk => ⟨(hfw.2 k hk).2, (hfw.2 k hk).1⟩
        have hkw : x.keys.length ≤ 30 ∧ x.word.size ≤ 100 ∧ x.name.size ≤ 100 := by
          unfold fewX at hfw
          simp only [Bool.and_eq_true, decide_eq_true_eq] at hfw
          exact ⟨hfw.1.1.1, hfw.1.1.2, hfw.1.2⟩
        obtain ⟨hk30, hw100, hn100⟩ := hkw
        have HXK := Lib.hid (HOK.out x (List.mem_of_getElem? hx)).2
        have HX := Lib.hid hx
        have HBe := Lib.hid hb_ws
        have i2 : (s.size : Int) ≤ 20000 := by omega
        have z1 : ¬ s.size + x.word.size > 9223372036854775807 := by omega
        have z2 : ¬ (s ++ x.word).size + (⟨#[32]⟩ : ByteArray).size > 9223372036854775807 := by rw [ByteArray.size_append]; show ¬ _ + 1 > _; omega
        have z3 : ¬ (s ++ x.word ++ ⟨#[32]⟩).size + x.name.size > 9223372036854775807 := by rw [ByteArray.size_append, ByteArray.size_append]; show ¬ _ + 1 + _ > _; omega
        clear hfw hI hx hb_ws
        obtain ⟨base, hbase⟩ : ∃ b, b = rtextB (l.take i) ++ rheadB x := ⟨_, rfl⟩
        have HBASE := Lib.hid hbase
        clear hbase
        by_cases ht : x.word = tTable
        · have b1 : (x.word.toList == [116, 97, 98, 108, 101]) = true := txt_eqL ht
          have b2 : (x.word.toList != [116, 97, 98, 108, 101]) = false := by simp [bne, b1]
          have HW2 : Hid (Wr (s ++ x.word) (base ++ (x.keys.take 0).flatMap keyB)) := Lib.hid ((HW.out.app x.word).to (by rw [HBASE.out]; unfold rheadB; rw [if_pos ht]; simp))
          have hsz : (s ++ x.word).size ≤ 20300 := by rw [ByteArray.size_append]; omega
          clear ht HW z2 z3
          go_wp2_with fail
          (refine pin_eq (fun w2 hE_w2 => ?_))
          have hb2 : Below w.heap.size w w2 := by rw [hE_w2]; exact HBe.out
          obtain ⟨sh, hsh⟩ : ∃ z, z = s ++ x.word := ⟨_, rfl⟩
          rw [← hsh] at HW2 hsz ⊢
          clear hE_w2 b1 b2 z1 hsh c0 c1 c2 c3
          go_loopg [3, 5] (x.keys.length + 1) (fun gk t3 t5 wq => ∃ (k : Nat) (s2 : ByteArray), k ≤ x.keys.length ∧ x.keys.length - k < gk ∧ t3 = .string s2 ∧ t5 = .int .i64 k ∧ s2.size ≤ 20300 ∧ Below w.heap.size w wq ∧ Hid (Wr s2 (base ++ (x.keys.take k).flatMap keyB)))
          case atStart => exact ⟨0, sh, by omega, by omega, rfl, rfl, hsz, hb2, HW2⟩
          case round =>
            obtain ⟨wq, rfl⟩ : ∃ z, z = wr := ⟨_, rfl⟩
            clear hb2 HW2 hsz
            obtain ⟨k, s2, hk, hkk, rfl, rfl, hs3, hb_wq, HW⟩ := hrel
            obtain ⟨g1, o1, C, q, hE, hg, ⟨c0, c1, c2, c3⟩, hI⟩ := (HA.out.below hb_wq (Nat.le_refl _)) i x HX.out
            obtain ⟨rfl, rfl⟩ : g = g1 ∧ o = o1 := by simpa using hE
            clear hE
            have HBq := Lib.hid hb_wq
            clear hb_wq
            by_cases hkt : k < x.keys.length
            · have i3 : (k : Int) < (x.keys.length : Int) := by omega
              by_cases hs5 : s2.size ≤ 20000
              · obtain ⟨a, ha⟩ : ∃ a, x.keys[k]? = some a := ⟨x.keys[k], by simp⟩
                obtain ⟨u, t, V, p, rfl, hu, ⟨e0, e1, e2⟩, hV⟩ := hI k a ha
                obtain ⟨ha1, ha2⟩ := HFW.out a (List.mem_of_getElem? ha)
                have HAV := Lib.hid (HXK.out a (List.mem_of_getElem? ha))
                have HA2 := Lib.hid ha
                have i4 : (s2.size : Int) ≤ 20000 := by omega
                have z1 : ¬ s2.size + (⟨#[32]⟩ : ByteArray).size > 9223372036854775807 := by show ¬ _ + 1 > _; omega
                have z2 : ¬ (s2 ++ ⟨#[32]⟩).size + a.key.size > 9223372036854775807 := by rw [ByteArray.size_append]; show ¬ _ + 1 + _ > _; omega
                obtain ⟨base2, hbase2⟩ : ∃ b, b = base ++ (x.keys.take k).flatMap keyB ++ [32] ++ bytes a.key := ⟨_, rfl⟩
                have HW3 : Hid (Wr (s2 ++ ⟨#[32]⟩ ++ a.key) (base2 ++ valsB (a.vals.take 0))) := Lib.hid (((HW.out.app ⟨#[32]⟩).app a.key).to (by rw [hbase2]; show _ ++ [32] ++ _ = _ ++ []; rw [List.append_nil]))
                have hsz : (s2 ++ ⟨#[32]⟩ ++ a.key).size ≤ 20200 := by rw [ByteArray.size_append, ByteArray.size_append]; show _ + 1 + _ ≤ _; omega
                have HBASE2 := Lib.hid hbase2
                clear hbase2 hI hV ha HW
                go_wp2_with fail
                (refine pin_eq (fun w3 hE_w3 => ?_))
                have hb3 : Below w.heap.size w w3 := by rw [hE_w3]; exact HBq.out
                obtain ⟨sk, hsk⟩ : ∃ z, z = s2 ++ ⟨#[32]⟩ ++ a.key := ⟨_, rfl⟩
                rw [← hsk] at HW3 hsz ⊢
                clear hE_w3 z1 z2 hsk c0 c1 c2 c3 e0 e1 e2 HBq hg hu
                go_loopg [3, 6] (a.vals.length + 1) (fun gk t3 t6 wv => ∃ (j : Nat) (s3 : ByteArray), j ≤ a.vals.length ∧ a.vals.length - j < gk ∧ t3 = .string s3 ∧ t6 = .int .i64 j ∧ s3.size ≤ 20200 ∧ Below w.heap.size w wv ∧ Hid (Wr s3 (base2 ++ valsB (a.vals.take j))))
                case atStart => exact ⟨0, sk, by omega, by omega, rfl, rfl, hsz, hb3, HW3⟩
                case round =>
                  obtain ⟨wv, rfl⟩ : ∃ z, z = wr := ⟨_, rfl⟩
                  clear hb3 HW3 hsz
                  obtain ⟨j, s3, hj, hjk, rfl, rfl, hs6, hb_wv, HW⟩ := hrel
                  obtain ⟨g1, o1, C, q, hE, hg, ⟨c0, c1, c2, c3⟩, hI⟩ := (HA.out.below hb_wv (Nat.le_refl _)) i x HX.out
                  obtain ⟨rfl, rfl⟩ : g = g1 ∧ o = o1 := by simpa using hE
                  clear hE
                  obtain ⟨u2, t2, V, p, rfl, hu, ⟨e0, e1, e2⟩, hV⟩ := hI k a HA2.out
                  have HBv := Lib.hid hb_wv
                  clear hb_wv hI
                  by_cases hjt : j < a.vals.length
                  · have i5 : (j : Int) < (a.vals.length : Int) := by omega
                    by_cases hs7 : s3.size ≤ 20000
                    · obtain ⟨n, hn⟩ : ∃ n, a.vals[j]? = some n := ⟨a.vals[j], by simp⟩
                      obtain ⟨r, y, rfl, hr, v0⟩ := hV j n hn
                      obtain ⟨n1, n2⟩ := HAV.out n (List.mem_of_getElem? hn)
                      have hdl := itoa_len n1 n2
                      have hds := bytes_size (Lib.itoa n)
                      have i6 : (s3.size : Int) ≤ 20000 := by omega
                      obtain ⟨D, hD⟩ : ∃ D : ByteArray, D = ⟨(Lib.itoa n).toArray⟩ := ⟨_, rfl⟩
                      have KD := fun W => digits_any n W n1 n2
                      rw [← hD] at KD hds
                      have z1 : ¬ s3.size + (⟨#[32]⟩ : ByteArray).size > 9223372036854775807 := by show ¬ _ + 1 > _; omega
                      have z2 : ¬ (s3 ++ ⟨#[32]⟩).size + D.size > 9223372036854775807 := by rw [ByteArray.size_append]; show ¬ _ + 1 + _ > _; omega
                      have HW4 : Hid (Wr (s3 ++ ⟨#[32]⟩ ++ D) (base2 ++ valsB (a.vals.take (j + 1)))) := Lib.hid (((HW.out.app ⟨#[32]⟩).app D).to (by unfold valsB; rw [take_next hn]; show _ ++ [32] ++ bytes D = _; rw [hD]; unfold bytes; simp))
                      have hsz : (s3 ++ ⟨#[32]⟩ ++ D).size ≤ 20200 := by rw [ByteArray.size_append, ByteArray.size_append]; show _ + 1 + _ ≤ _; omega
                      have KKD := Lib.hid KD
                      clear KD hD hds hdl hn hV HW n1 n2
                      go_wp2_with fail
                      (go_at_call 52; refine (KKD.out _).mono ?_; rintro e w4 ⟨rfl, hb4⟩)
                      have hb5 := Lib.hid (HBv.out.trans (hb4.mono HBv.out.size))
                      clear hb4
                      go_wp2_with fail
                      go_roundg (a.vals.length - (j + 1) + 1)
                      case measure => omega
                      case rel => exact ⟨j + 1, s3 ++ ⟨#[32]⟩ ++ D, by omega, by omega, rfl, by go_num, hsz, hb5.out, HW4⟩
                    · have i6 : ¬ (s3.size : Int) ≤ 20000 := by omega
                      have HW4 : Hid (Wr s3 (base ++ (x.keys.take (k + 1)).flatMap keyB)) := Lib.hid ((HW.out.long (by omega) (valsB (a.vals.drop j))).to (by rw [List.append_assoc]; unfold valsB; rw [← take_rest, take_next HA2.out, HBASE2.out, keyB_eq]; unfold valsB; simp))
                      clear hV HW
                      go_wp2_with fail
                      go_roundg (x.keys.length - (k + 1) + 1)
                      case measure => omega
                      case rel => exact ⟨k + 1, s3, by omega, by omega, rfl, by go_num, by omega, HBv.out, HW4⟩
                  · obtain rfl : j = a.vals.length := by omega
                    have HW4 : Hid (Wr s3 (base ++ (x.keys.take (k + 1)).flatMap keyB)) := Lib.hid (HW.out.to (by rw [List.take_length, take_next HA2.out, HBASE2.out, keyB_eq]; simp))
                    clear hV HW
                    go_wp2_with fail
                    go_roundg (x.keys.length - (k + 1) + 1)
                    case measure => omega
                    case rel => exact ⟨k + 1, s3, by omega, by omega, rfl, by go_num, by omega, HBv.out, HW4⟩
              · have i4 : ¬ (s2.size : Int) ≤ 20000 := by omega
                have HWE : Hid (Wr s2 (base ++ x.keys.flatMap keyB)) := Lib.hid ((HW.out.long (by omega) ((x.keys.drop k).flatMap keyB)).to (by rw [List.append_assoc, ← take_rest]))
                clear HW hI
                have z1 : ¬ s2.size + (⟨#[59, 10]⟩ : ByteArray).size > 9223372036854775807 := by show ¬ _ + 2 > _; omega
                have HF : Hid (Wr (s2 ++ ⟨#[59, 10]⟩) (rtextB (l.take (i + 1)))) := Lib.hid ((HWE.out.app ⟨#[59, 10]⟩).to (by rw [HBASE.out]; unfold rtextB; rw [take_next HX.out, ritemB_eq]; show _ ++ _ ++ _ ++ [59, 10] = _; simp))
                have hsF : (s2 ++ ⟨#[59, 10]⟩).size ≤ 20400 := by rw [ByteArray.size_append]; show _ + 2 ≤ _; omega
                go_wp2_with fail
                go_roundg (l.length - (i + 1) + 1)
                case measure => omega
                case rel => exact ⟨i + 1, s2 ++ ⟨#[59, 10]⟩, by omega, by omega, rfl, by go_num, hsF, HBq.out, HF⟩
            · obtain rfl : k = x.keys.length := by omega
              have HWE : Hid (Wr s2 (base ++ x.keys.flatMap keyB)) := Lib.hid (HW.out.to (by rw [List.take_length]))
              clear HW hI
              have z1 : ¬ s2.size + (⟨#[59, 10]⟩ : ByteArray).size > 9223372036854775807 := by show ¬ _ + 2 > _; omega
              have HF : Hid (Wr (s2 ++ ⟨#[59, 10]⟩) (rtextB (l.take (i + 1)))) := Lib.hid ((HWE.out.app ⟨#[59, 10]⟩).to (by rw [HBASE.out]; unfold rtextB; rw [take_next HX.out, ritemB_eq]; show _ ++ _ ++ _ ++ [59, 10] = _; simp))
              have hsF : (s2 ++ ⟨#[59, 10]⟩).size ≤ 20400 := by rw [ByteArray.size_append]; show _ + 2 ≤ _; omega
              go_wp2_with fail
              go_roundg (l.length - (i + 1) + 1)
              case measure => omega
              case rel => exact ⟨i + 1, s2 ++ ⟨#[59, 10]⟩, by omega, by omega, rfl, by go_num, hsF, HBq.out, HF⟩
        · have b1 : (x.word.toList == [116, 97, 98, 108, 101]) = false := txt_neL ht
          have b2 : (x.word.toList != [116, 97, 98, 108, 101]) = true := by simp [bne, b1]
          have HW2 : Hid (Wr (s ++ x.word ++ ⟨#[32]⟩ ++ x.name) (base ++ (x.keys.take 0).flatMap keyB)) := Lib.hid ((((HW.out.app x.word).app ⟨#[32]⟩).app x.name).to (by rw [HBASE.out]; unfold rheadB; rw [if_neg ht]; show _ ++ _ ++ [32] ++ _ = _; simp))
          have hsz : (s ++ x.word ++ ⟨#[32]⟩ ++ x.name).size ≤ 20300 := by rw [ByteArray.size_append, ByteArray.size_append, ByteArray.size_append]; show _ + _ + 1 + _ ≤ _; omega
          clear ht HW
          go_wp2_with fail
          (refine pin_eq (fun w2 hE_w2 => ?_))
          have hb2 : Below w.heap.size w w2 := by rw [hE_w2]; exact HBe.out
          obtain ⟨sh, hsh⟩ : ∃ z, z = s ++ x.word ++ ⟨#[32]⟩ ++ x.name := ⟨_, rfl⟩
          rw [← hsh] at HW2 hsz ⊢
          clear hE_w2 b1 b2 z1 z2 z3 hsh c0 c1 c2 c3
          go_loopg [3, 5] (x.keys.length + 1) (fun gk t3 t5 wq => ∃ (k : Nat) (s2 : ByteArray), k ≤ x.keys.length ∧ x.keys.length - k < gk ∧ t3 = .string s2 ∧ t5 = .int .i64 k ∧ s2.size ≤ 20300 ∧ Below w.heap.size w wq ∧ Hid (Wr s2 (base ++ (x.keys.take k).flatMap keyB)))
          case atStart => exact ⟨0, sh, by omega, by omega, rfl, rfl, hsz, hb2, HW2⟩
          case round =>
            obtain ⟨wq, rfl⟩ : ∃ z, z = wr := ⟨_, rfl⟩
            clear hb2 HW2 hsz
            obtain ⟨k, s2, hk, hkk, rfl, rfl, hs3, hb_wq, HW⟩ := hrel
            obtain ⟨g1, o1, C, q, hE, hg, ⟨c0, c1, c2, c3⟩, hI⟩ := (HA.out.below hb_wq (Nat.le_refl _)) i x HX.out
            obtain ⟨rfl, rfl⟩ : g = g1 ∧ o = o1 := by simpa using hE
            clear hE
            have HBq := Lib.hid hb_wq
            clear hb_wq
            by_cases hkt : k < x.keys.length
            · have i3 : (k : Int) < (x.keys.length : Int) := by omega
              by_cases hs5 : s2.size ≤ 20000
              · obtain ⟨a, ha⟩ : ∃ a, x.keys[k]? = some a := ⟨x.keys[k], by simp⟩
                obtain ⟨u, t, V, p, rfl, hu, ⟨e0, e1, e2⟩, hV⟩ := hI k a ha
                obtain ⟨ha1, ha2⟩ := HFW.out a (List.mem_of_getElem? ha)
                have HAV := Lib.hid (HXK.out a (List.mem_of_getElem? ha))
                have HA2 := Lib.hid ha
                have i4 : (s2.size : Int) ≤ 20000 := by omega
                have z1 : ¬ s2.size + (⟨#[32]⟩ : ByteArray).size > 9223372036854775807 := by show ¬ _ + 1 > _; omega
                have z2 : ¬ (s2 ++ ⟨#[32]⟩).size + a.key.size > 9223372036854775807 := by rw [ByteArray.size_append]; show ¬ _ + 1 + _ > _; omega
                obtain ⟨base2, hbase2⟩ : ∃ b, b = base ++ (x.keys.take k).flatMap keyB ++ [32] ++ bytes a.key := ⟨_, rfl⟩
                have HW3 : Hid (Wr (s2 ++ ⟨#[32]⟩ ++ a.key) (base2 ++ valsB (a.vals.take 0))) := Lib.hid (((HW.out.app ⟨#[32]⟩).app a.key).to (by rw [hbase2]; show _ ++ [32] ++ _ = _ ++ []; rw [List.append_nil]))
                have hsz : (s2 ++ ⟨#[32]⟩ ++ a.key).size ≤ 20200 := by rw [ByteArray.size_append, ByteArray.size_append]; show _ + 1 + _ ≤ _; omega
                have HBASE2 := Lib.hid hbase2
                clear hbase2 hI hV ha HW
                go_wp2_with fail
                (refine pin_eq (fun w3 hE_w3 => ?_))
                have hb3 : Below w.heap.size w w3 := by rw [hE_w3]; exact HBq.out
                obtain ⟨sk, hsk⟩ : ∃ z, z = s2 ++ ⟨#[32]⟩ ++ a.key := ⟨_, rfl⟩
                rw [← hsk] at HW3 hsz ⊢
                clear hE_w3 z1 z2 hsk c0 c1 c2 c3 e0 e1 e2 HBq hg hu
                go_loopg [3, 6] (a.vals.length + 1) (fun gk t3 t6 wv => ∃ (j : Nat) (s3 : ByteArray), j ≤ a.vals.length ∧ a.vals.length - j < gk ∧ t3 = .string s3 ∧ t6 = .int .i64 j ∧ s3.size ≤ 20200 ∧ Below w.heap.size w wv ∧ Hid (Wr s3 (base2 ++ valsB (a.vals.take j))))
                case atStart => exact ⟨0, sk, by omega, by omega, rfl, rfl, hsz, hb3, HW3⟩
                case round =>
                  obtain ⟨wv, rfl⟩ : ∃ z, z = wr := ⟨_, rfl⟩
                  clear hb3 HW3 hsz
                  obtain ⟨j, s3, hj, hjk, rfl, rfl, hs6, hb_wv, HW⟩ := hrel
                  obtain ⟨g1, o1, C, q, hE, hg, ⟨c0, c1, c2, c3⟩, hI⟩ := (HA.out.below hb_wv (Nat.le_refl _)) i x HX.out
                  obtain ⟨rfl, rfl⟩ : g = g1 ∧ o = o1 := by simpa using hE
                  clear hE
                  obtain ⟨u2, t2, V, p, rfl, hu, ⟨e0, e1, e2⟩, hV⟩ := hI k a HA2.out
                  have HBv := Lib.hid hb_wv
                  clear hb_wv hI
                  by_cases hjt : j < a.vals.length
                  · have i5 : (j : Int) < (a.vals.length : Int) := by omega
                    by_cases hs7 : s3.size ≤ 20000
                    · obtain ⟨n, hn⟩ : ∃ n, a.vals[j]? = some n := ⟨a.vals[j], by simp⟩
                      obtain ⟨r, y, rfl, hr, v0⟩ := hV j n hn
                      obtain ⟨n1, n2⟩ := HAV.out n (List.mem_of_getElem? hn)
                      have hdl := itoa_len n1 n2
                      have hds := bytes_size (Lib.itoa n)
                      have i6 : (s3.size : Int) ≤ 20000 := by omega
                      obtain ⟨D, hD⟩ : ∃ D : ByteArray, D = ⟨(Lib.itoa n).toArray⟩ := ⟨_, rfl⟩
                      have KD := fun W => digits_any n W n1 n2
                      rw [← hD] at KD hds
                      have z1 : ¬ s3.size + (⟨#[32]⟩ : ByteArray).size > 9223372036854775807 := by show ¬ _ + 1 > _; omega
                      have z2 : ¬ (s3 ++ ⟨#[32]⟩).size + D.size > 9223372036854775807 := by rw [ByteArray.size_append]; show ¬ _ + 1 + _ > _; omega
                      have HW4 : Hid (Wr (s3 ++ ⟨#[32]⟩ ++ D) (base2 ++ valsB (a.vals.take (j + 1)))) := Lib.hid (((HW.out.app ⟨#[32]⟩).app D).to (by unfold valsB; rw [take_next hn]; show _ ++ [32] ++ bytes D = _; rw [hD]; unfold bytes; simp))
                      have hsz : (s3 ++ ⟨#[32]⟩ ++ D).size ≤ 20200 := by rw [ByteArray.size_append, ByteArray.size_append]; show _ + 1 + _ ≤ _; omega
                      have KKD := Lib.hid KD
                      clear KD hD hds hdl hn hV HW n1 n2
                      go_wp2_with fail
                      (go_at_call 52; refine (KKD.out _).mono ?_; rintro e w4 ⟨rfl, hb4⟩)
                      have hb5 := Lib.hid (HBv.out.trans (hb4.mono HBv.out.size))
                      clear hb4
                      go_wp2_with fail
                      go_roundg (a.vals.length - (j + 1) + 1)
                      case measure => omega
                      case rel => exact ⟨j + 1, s3 ++ ⟨#[32]⟩ ++ D, by omega, by omega, rfl, by go_num, hsz, hb5.out, HW4⟩
                    · have i6 : ¬ (s3.size : Int) ≤ 20000 := by omega
                      have HW4 : Hid (Wr s3 (base ++ (x.keys.take (k + 1)).flatMap keyB)) := Lib.hid ((HW.out.long (by omega) (valsB (a.vals.drop j))).to (by rw [List.append_assoc]; unfold valsB; rw [← take_rest, take_next HA2.out, HBASE2.out, keyB_eq]; unfold valsB; simp))
                      clear hV HW
                      go_wp2_with fail
                      go_roundg (x.keys.length - (k + 1) + 1)
                      case measure => omega
                      case rel => exact ⟨k + 1, s3, by omega, by omega, rfl, by go_num, by omega, HBv.out, HW4⟩
                  · obtain rfl : j = a.vals.length := by omega
                    have HW4 : Hid (Wr s3 (base ++ (x.keys.take (k + 1)).flatMap keyB)) := Lib.hid (HW.out.to (by rw [List.take_length, take_next HA2.out, HBASE2.out, keyB_eq]; simp))
                    clear hV HW
                    go_wp2_with fail
                    go_roundg (x.keys.length - (k + 1) + 1)
                    case measure => omega
                    case rel => exact ⟨k + 1, s3, by omega, by omega, rfl, by go_num, by omega, HBv.out, HW4⟩
              · have i4 : ¬ (s2.size : Int) ≤ 20000 := by omega
                have HWE : Hid (Wr s2 (base ++ x.keys.flatMap keyB)) := Lib.hid ((HW.out.long (by omega) ((x.keys.drop k).flatMap keyB)).to (by rw [List.append_assoc, ← take_rest]))
                clear HW hI
                have z1 : ¬ s2.size + (⟨#[59, 10]⟩ : ByteArray).size > 9223372036854775807 := by show ¬ _ + 2 > _; omega
                have HF : Hid (Wr (s2 ++ ⟨#[59, 10]⟩) (rtextB (l.take (i + 1)))) := Lib.hid ((HWE.out.app ⟨#[59, 10]⟩).to (by rw [HBASE.out]; unfold rtextB; rw [take_next HX.out, ritemB_eq]; show _ ++ _ ++ _ ++ [59, 10] = _; simp))
                have hsF : (s2 ++ ⟨#[59, 10]⟩).size ≤ 20400 := by rw [ByteArray.size_append]; show _ + 2 ≤ _; omega
                go_wp2_with fail
                go_roundg (l.length - (i + 1) + 1)
                case measure => omega
                case rel => exact ⟨i + 1, s2 ++ ⟨#[59, 10]⟩, by omega, by omega, rfl, by go_num, hsF, HBq.out, HF⟩
            · obtain rfl : k = x.keys.length := by omega
              have HWE : Hid (Wr s2 (base ++ x.keys.flatMap keyB)) := Lib.hid (HW.out.to (by rw [List.take_length]))
              clear HW hI
              have z1 : ¬ s2.size + (⟨#[59, 10]⟩ : ByteArray).size > 9223372036854775807 := by show ¬ _ + 2 > _; omega
              have HF : Hid (Wr (s2 ++ ⟨#[59, 10]⟩) (rtextB (l.take (i + 1)))) := Lib.hid ((HWE.out.app ⟨#[59, 10]⟩).to (by rw [HBASE.out]; unfold rtextB; rw [take_next HX.out, ritemB_eq]; show _ ++ _ ++ _ ++ [59, 10] = _; simp))
              have hsF : (s2 ++ ⟨#[59, 10]⟩).size ≤ 20400 := by rw [ByteArray.size_append]; show _ + 2 ≤ _; omega
              go_wp2_with fail
              go_roundg (l.length - (i + 1) + 1)
              case measure => omega
              case rel => exact ⟨i + 1, s2 ++ ⟨#[59, 10]⟩, by omega, by omega, rfl, by go_num, hsF, HBq.out, HF⟩
      · have i2 : ¬ (s.size : Int) ≤ 20000 := by omega
        have HF : Hid (Wr s (rtextB l)) := Lib.hid ((HW.out.long (by omega) (rtextB (l.drop i))).to (take_rest ritemB l i).symm)
        clear HW
        go_wp2_with fail
        go_ret
        exact ⟨hb_ws, s, rfl, HF.out, hs4⟩
    · obtain rfl : i = l.length := by omega
      rw [List.take_length] at HW
      go_wp2_with fail
      go_ret
      exact ⟨hb_ws, s, rfl, HW.out, hs4⟩
end Go.Proofs.YteondblmcooklaaDoor
