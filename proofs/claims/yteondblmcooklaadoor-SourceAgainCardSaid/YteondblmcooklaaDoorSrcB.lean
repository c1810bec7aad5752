/- The library's tables; what the fields of a word's keys are; the contract of source.Arity. -/
import Derived.Test.YteondblmcooklaaDoorSrcA
import Derived.Test.YteondblmcooklaaDoorShelf
namespace Go.Proofs.YteondblmcooklaaDoor
open Go Go.RowKit
set_option linter.unusedVariables false
/-- The tables of the library that the walk reads. -/
structure Tabs (w : World) : Prop where
  sp : Lib.TabIs Tryd.prog w "strings.asciiSpace" .u8 Lib.asciiSpaceTab
  pw : Lib.TabIs Tryd.prog w "internal/strconv.uint64pow10" .u64 Lib.pow10Tab
theorem tab_block {w w' : World} {name : String} {k : IntKind} {zs : List Int} {g : Nat} (hg : Tryd.prog.globalNamed name = some g) (h : Lib.TabIs Tryd.prog w name k zs) (hb : w'.heap[g]? = w.heap[g]?) : Lib.TabIs Tryd.prog w' name k zs := by
  unfold Lib.TabIs World.var? at *
  rw [hg] at *
  simp only [Option.bind_some] at *
  rw [hb]; exact h
theorem tab_lt {w : World} {name : String} {k : IntKind} {zs : List Int} {g : Nat} (hg : Tryd.prog.globalNamed name = some g) (h : Lib.TabIs Tryd.prog w name k zs) : g < w.heap.size := by
  rcases Nat.lt_or_ge g w.heap.size with h1 | h1
  · exact h1
  · unfold Lib.TabIs World.var? at h
    rw [hg] at h
    simp only [Option.bind_some, Array.getElem?_eq_none h1] at h
    cases h
theorem gSp : Tryd.prog.globalNamed "strings.asciiSpace" = some 0 := by kernel_rfl
theorem gPw : Tryd.prog.globalNamed "internal/strconv.uint64pow10" = some 2 := by kernel_rfl
theorem Tabs.three {w : World} (h : Tabs w) : 3 ≤ w.heap.size := by
  have := tab_lt gPw h.pw
  omega
theorem Tabs.below {w w' : World} {B : Nat} (h : Tabs w) (hb : Below B w w') (hB : 3 ≤ B) : Tabs w' := ⟨tab_block gSp h.sp (hb.block _ (by omega)), tab_block gPw h.pw (hb.block _ (by omega))⟩
theorem Tabs.but {w w' : World} {rb : Nat} (h : Tabs w) (hb : But rb w w') (hr : 3 ≤ rb) : Tabs w' := by
  have := h.three
  exact ⟨tab_block gSp h.sp (hb.block _ (by omega) (by omega)), tab_block gPw h.pw (hb.block _ (by omega) (by omega))⟩
theorem Tabs.alloc {w : World} (h : Tabs w) (o : Obj) : Tabs (w.alloc o) := h.below ((Below.refl w.heap.size w).alloc (Nat.le_refl _) o) h.three
/-- A word of the table, or none. -/
theorem word_cases (s : ByteArray) : (∃ p ∈ txtTab, s = p.1) ∨ (txtOf s = ⟨#[]⟩ ∧ ksOf s = [] ∧ isWord s = false) := by
  by_cases h : ∃ p ∈ txtTab, s = p.1
  · exact .inl h
  · right
    have h' : ∀ p ∈ txtTab, ¬ s = p.1 := fun p hp e => h ⟨p, hp, e⟩
    have hk : ∀ p ∈ keyTab, ¬ p.1 = s := by
      have hmap : keyTab.map (·.1) = txtTab.map (·.1) := by decide
      intro p hp e
      have : p.1 ∈ txtTab.map (·.1) := by rw [← hmap]; exact List.mem_map_of_mem hp
      obtain ⟨q, hq, hqe⟩ := List.mem_map.1 this
      exact h' q hq (by rw [hqe]; exact e.symm)
    refine ⟨txtOf_none h', ?_, ?_⟩
    · have : keyTab.find? (fun p => decide (p.1 = s)) = none := by
        rw [List.find?_eq_none]
        intro p hp
        simpa using hk p hp
      unfold ksOf
      rw [this]
    · unfold isWord
      rw [List.any_eq_false]
      intro p hp
      simpa using hk p hp
def digT (n : Nat) : ByteArray := ⟨#[UInt8.ofNat (48 + n)]⟩
set_option maxRecDepth 100000 in
theorem fields_txt (s : ByteArray) : (Lib.fields (txtOf s).data.toList).map (fun l => (⟨l.toArray⟩ : ByteArray)) = (ksOf s).flatMap fun p => [p.1, digT p.2] := by
  rcases word_cases s with ⟨p, hp, rfl⟩ | ⟨h1, h2, _⟩
  · simp only [txtTab, List.mem_cons, List.not_mem_nil, or_false] at hp
    rcases hp with rfl | rfl | rfl | rfl | rfl | rfl | rfl | rfl | rfl | rfl | rfl | rfl | rfl | rfl
    all_goals kernel_rfl
  · rw [h1, h2]; rfl
set_option maxRecDepth 100000 in
theorem txt_ok (s : ByteArray) : (txtOf s).size ≤ 200 ∧ (∀ (j : Nat) b, (txtOf s).data.toList[j]? = some b → b.toNat < 128) ∧ (ksOf s).length ≤ 20 ∧ (∀ p ∈ ksOf s, p.2 ≤ 2) := by
  suffices h : decide ((txtOf s).size ≤ 200) = true ∧ ((txtOf s).data.toList.all fun b => decide (b.toNat < 128)) = true ∧ decide ((ksOf s).length ≤ 20) = true ∧ ((ksOf s).all fun p => decide (p.2 ≤ 2)) = true by
    obtain ⟨h1, h2, h3, h4⟩ := h
    rw [List.all_eq_true] at h2 h4
    exact ⟨of_decide_eq_true h1, fun j b hb => of_decide_eq_true (h2 b (List.mem_of_getElem? hb)), of_decide_eq_true h3, fun p hp => of_decide_eq_true (h4 p hp)⟩
  rcases word_cases s with ⟨p, hp, rfl⟩ | ⟨h1, h2, _⟩
  · simp only [txtTab, List.mem_cons, List.not_mem_nil, or_false] at hp
    rcases hp with rfl | rfl | rfl | rfl | rfl | rfl | rfl | rfl | rfl | rfl | rfl | rfl | rfl | rfl
    all_goals exact ⟨by kernel_rfl, by kernel_rfl, by kernel_rfl, by kernel_rfl⟩
  · rw [h1, h2]; exact ⟨rfl, rfl, rfl, rfl⟩
set_option maxRecDepth 100000 in
/-- The empty text is that of no word. -/
theorem txt_word (s : ByteArray) : ((txtOf s).toList == []) = !isWord s := by
  rcases word_cases s with ⟨p, hp, rfl⟩ | ⟨h1, _, h3⟩
  · simp only [txtTab, List.mem_cons, List.not_mem_nil, or_false] at hp
    rcases hp with rfl | rfl | rfl | rfl | rfl | rfl | rfl | rfl | rfl | rfl | rfl | rfl | rfl | rfl
    all_goals (rw [ByteArray.toList_eq]; kernel_rfl)
  · rw [h1, h3, ByteArray.toList_eq]; rfl
/-- The keys' strings in a block. -/
theorem fields_at {w : World} {l : List (ByteArray × Nat)} {b : Nat} {e : TypeId} {fs : List (List UInt8)} (hf : fs.map (fun l => (⟨l.toArray⟩ : ByteArray)) = l.flatMap fun p => [p.1, digT p.2]) (hb : b = w.heap.size) :
    fs.length = l.length * 2 ∧ ∀ k p, l[k]? = some p → (w.alloc (.cells (fs.map fun l => Value.string ⟨l.toArray⟩).toArray e)).cell? ⟨b, k * 2, none⟩ = some (.string p.1) ∧ (w.alloc (.cells (fs.map fun l => Value.string ⟨l.toArray⟩).toArray e)).cell? ⟨b, k * 2 + 1, none⟩ = some (.string (digT p.2)) := by
  subst hb
  have hl : fs.length = l.length * 2 := by
    have := congrArg List.length hf
    rw [List.length_map] at this
    rw [this]
    clear this hf
    induction l with
    | nil => rfl
    | cons a l ih => rw [List.flatMap_cons, List.length_append, ih]; simp; omega
  have he : fs.map (fun l => Value.string ⟨l.toArray⟩) = l.flatMap fun p => [Value.string p.1, Value.string (digT p.2)] := by
    have h1 : fs.map (fun l => Value.string ⟨l.toArray⟩) = (fs.map (fun l => (⟨l.toArray⟩ : ByteArray))).map Value.string := by rw [List.map_map]; rfl
    rw [h1, hf, List.map_flatMap]
    rfl
  have hc : ∀ k p j u, l[k]? = some p → [Value.string p.1, Value.string (digT p.2)][j]? = some u → (w.alloc (.cells (fs.map fun l => Value.string ⟨l.toArray⟩).toArray e)).cell? ⟨w.heap.size, k * 2 + j, none⟩ = some u := fun k p j u hk hu => by
    rw [World.cell?_alloc_new, he, List.getElem?_toArray]
    exact flat_get (fun p : ByteArray × Nat => [Value.string p.1, Value.string (digT p.2)]) 2 (fun _ => rfl) l k j p u hk hu
  exact ⟨hl, fun k p hk => ⟨hc k p 0 _ hk rfl, hc k p 1 _ hk rfl⟩⟩
theorem arL_step {l : List (ByteArray × Nat)} {k : Nat} {p : ByteArray × Nat} {key : ByteArray} (hk : l[k]? = some p) : arL (l.drop k) key = if p.1 = key then (p.2 : Int) else arL (l.drop (k + 1)) key := by
  obtain ⟨hlt, rfl⟩ := List.getElem?_eq_some_iff.1 hk
  rw [List.drop_eq_getElem_cons hlt]
  unfold arL
  rw [List.find?_cons]
  by_cases h : l[k].1 = key
  · simp [h]
  · simp [h]
theorem arR_bd (word key : ByteArray) : -1 ≤ arR word key ∧ arR word key ≤ 2 := by
  unfold arR arL
  split
  · rename_i p hp
    have := (txt_ok word).2.2.2 p (List.mem_of_find?_eq_some hp)
    omega
  · omega
set_option maxRecDepth 100000 in
set_option maxHeartbeats 1000000 in
theorem arity_any (word key : ByteArray) (w : World) (ht : Tabs w) : Calls Tryd.prog 17 #[.string word, .string key] w fun e w' => e = .returned (.int .i64 (arR word key)) ∧ Below w.heap.size w w' := by
  have h3 := ht.three
  obtain ⟨hs, hasc, hkl, hk2⟩ := txt_ok word
  have HT := Lib.hid ht
  have hft := fields_txt word
  obtain ⟨R, hR⟩ : ∃ R, R = arR word key := ⟨_, rfl⟩
  rw [← hR]
  have HR : Hid (arL ((ksOf word).drop 0) key = R) := Lib.hid (by rw [hR]; rfl)
  have HA := Lib.hid hasc
  have HK2 := Lib.hid hk2
  have HF := Lib.hid hft
  clear hR ht hasc hft hk2
  obtain ⟨l, hl⟩ : ∃ l, l = ksOf word := ⟨_, rfl⟩
  obtain ⟨t, htx⟩ : ∃ t, t = txtOf word := ⟨_, rfl⟩
  have K := fun W => keys_any word W
  rw [← htx] at hs HA HF K
  rw [← hl] at hkl HK2 HF HR
  clear hl htx
  go_enter Tryd.func17, Tryd.ntmps17; (try simp only [List.append_eq, List.cons_append, List.nil_append])
  go_wp2_with (first | (go_at_call 31; refine (K _).mono ?_; rintro e w1 ⟨rfl, hb_w1⟩) | (go_at_call 30; refine (Tryd.strings_Fields_laid _ _ (by omega) HA.out (HT.out.below hb_w1 h3).sp).mono ?_; rintro e w2 ⟨rfl, rfl⟩))
  have hz1 := hb_w1.size
  have ha := fun (W : World) => fields_at (w := W) (e := 9) HF.out rfl
  obtain ⟨hfl, hca⟩ := ha w1
  have HC := Lib.hid hca
  have HB := Lib.hid hb_w1
  clear ha hca HF hb_w1
  rw [hfl]
  clear hfl
  go_loop [6] (fun t => ∃ k : Nat, k ≤ l.length ∧ t = .int .i64 ((k * 2 : Nat) : Int) ∧ Hid (arL (l.drop k) key = R)) (fun t => 2 * l.length - (intOf t).toNat)
  case atStart => exact ⟨0, by omega, rfl, HR⟩
  case round =>
    obtain ⟨k, hk, rfl, HJ⟩ := hrel
    by_cases hlt : k < l.length
    · obtain ⟨p, hp⟩ : ∃ p, l[k]? = some p := ⟨l[k], by simp⟩
      obtain ⟨c0, c1⟩ := HC.out k p hp
      have h2 := HK2.out p (List.mem_of_getElem? hp)
      have hst := arL_step (key := key) hp
      have i1 : ((k * 2 : Nat) : Int) + 1 < ((l.length * 2 : Nat) : Int) := by omega
      by_cases he : p.1 = key
      · rw [if_pos he] at hst
        have b1 : (p.1.toList == key.toList) = true := by rw [he]; exact beq_self_eq_true _
        obtain rfl : R = (p.2 : Int) := by rw [← HJ.out]; exact hst
        obtain ⟨p1, n⟩ := p
        simp only at h2 b1 c0 c1 ⊢
        clear hst he hp HJ HC
        rcases (by omega : n = 0 ∨ n = 1 ∨ n = 2) with rfl | rfl | rfl
        all_goals
          simp only [digT] at c1
          go_wp2_with fail
          go_ret
          exact ⟨rfl, HB.out.alloc hz1 _⟩
      · rw [if_neg he] at hst
        have b1 : (p.1.toList == key.toList) = false := by
          rw [beq_eq_false_iff_ne]; intro e
          rw [ByteArray.toList_eq, ByteArray.toList_eq] at e
          exact he (ByteArray.ext (Array.ext' e))
        have hnx := Lib.hid (hst.symm.trans HJ.out)
        clear hst he
        go_wp2_with fail
        go_round
        case rel => exact ⟨k + 1, by omega, by go_num, hnx⟩
        case measure => simp [intOf]; omega
    · obtain rfl : k = l.length := by omega
      have i1 : ¬ ((l.length * 2 : Nat) : Int) + 1 < ((l.length * 2 : Nat) : Int) := by omega
      obtain rfl : R = -1 := by rw [← HJ.out, List.drop_length]; rfl
      go_wp2_with fail
      go_ret
      exact ⟨rfl, HB.out.alloc hz1 _⟩
end Go.Proofs.YteondblmcooklaaDoor
