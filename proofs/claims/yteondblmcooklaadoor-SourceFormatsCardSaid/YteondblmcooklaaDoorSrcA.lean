/- The contract of source.keys. -/
import Derived.Test.YteondblmcooklaaDoorSrcM
namespace Go.Proofs.YteondblmcooklaaDoor
open Go Go.RowKit
set_option linter.unusedVariables false
theorem txt_eqL {a : ByteArray} {l : List UInt8} (h : a = ⟨l.toArray⟩) : (a.toList == l) = true := by
  subst h
  rw [ByteArray.toList_eq]
  simp
theorem txt_neL {a : ByteArray} {l : List UInt8} (h : ¬ a = ⟨l.toArray⟩) : (a.toList == l) = false := by
  rw [beq_eq_false_iff_ne]
  intro e
  rw [ByteArray.toList_eq] at e
  exact h (ByteArray.ext (by rw [← e]))
theorem txt_neT {a b : ByteArray} (hne : ¬ a = b) : (a.toList == b.toList) = false := by
  rw [beq_eq_false_iff_ne]
  intro e
  rw [ByteArray.toList_eq, ByteArray.toList_eq] at e
  exact hne (ByteArray.ext (Array.ext' e))
theorem txtOf_none {s : ByteArray} (h : ∀ p ∈ txtTab, ¬ s = p.1) : txtOf s = ⟨#[]⟩ := by
  have : txtTab.find? (fun p => decide (p.1 = s)) = none := by
    rw [List.find?_eq_none]
    intro p hp
    have := h p hp
    simp only [decide_eq_true_eq]
    exact fun e => this e.symm
  unfold txtOf
  rw [this]
set_option maxRecDepth 100000 in
set_option maxHeartbeats 4000000 in
theorem keys_any (s : ByteArray) (w : World) : Calls Tryd.prog 31 #[.string s] w fun e w' => e = .returned (.string (txtOf s)) ∧ Below w.heap.size w w' := by
  by_cases h0 : s = ⟨[116, 97, 98, 108, 101].toArray⟩
  · have b0 := txt_eqL h0
    have hT : txtOf s = ⟨#[114, 97, 100, 105, 117, 115, 32, 49, 32, 98, 97, 108, 108, 115, 32, 49, 32, 103, 114, 97, 118, 105, 116, 121, 32, 50, 32, 100, 114, 97, 103, 32, 50, 32, 114, 101, 115, 116, 32, 49, 32, 116, 114, 111, 117, 103, 104, 32, 49]⟩ := by rw [h0]; exact rfl
    rw [hT]
    clear h0 hT
    go_enter Tryd.func31, Tryd.ntmps31; (try simp only [List.append_eq, List.cons_append, List.nil_append])
    go_wp2_with fail
    go_ret
    exact ⟨rfl, Below.refl _ _⟩
  have b0 := txt_neL h0
  by_cases h1 : s = ⟨[119, 97, 108, 108].toArray⟩
  · have b1 := txt_eqL h1
    have hT : txtOf s = ⟨#[108, 101, 118, 101, 108, 32, 49, 32, 102, 114, 111, 109, 32, 50, 32, 116, 111, 32, 50, 32, 114, 101, 115, 116, 32, 49, 32, 103, 114, 105, 112, 32, 49, 32, 107, 105, 99, 107, 32, 49, 32, 109, 105, 110, 32, 49, 32, 99, 111, 105, 108, 32, 49, 32, 115, 119, 105, 116, 99, 104, 32, 49]⟩ := by rw [h1]; exact rfl
    rw [hT]
    clear h1 hT
    go_enter Tryd.func31, Tryd.ntmps31; (try simp only [List.append_eq, List.cons_append, List.nil_append])
    go_wp2_with fail
    go_ret
    exact ⟨rfl, Below.refl _ _⟩
  have b1 := txt_neL h1
  by_cases h2 : s = ⟨[103, 97, 116, 101].toArray⟩
  · have b2 := txt_eqL h2
    have hT : txtOf s = ⟨#[108, 101, 118, 101, 108, 32, 49, 32, 102, 114, 111, 109, 32, 50, 32, 116, 111, 32, 50, 32, 114, 101, 115, 116, 32, 49, 32, 103, 114, 105, 112, 32, 49, 32, 107, 105, 99, 107, 32, 49, 32, 109, 105, 110, 32, 49, 32, 99, 111, 105, 108, 32, 49, 32, 115, 119, 105, 116, 99, 104, 32, 49]⟩ := by rw [h2]; exact rfl
    rw [hT]
    clear h2 hT
    go_enter Tryd.func31, Tryd.ntmps31; (try simp only [List.append_eq, List.cons_append, List.nil_append])
    go_wp2_with fail
    go_ret
    exact ⟨rfl, Below.refl _ _⟩
  have b2 := txt_neL h2
  by_cases h3 : s = ⟨[116, 97, 114, 103, 101, 116].toArray⟩
  · have b3 := txt_eqL h3
    have hT : txtOf s = ⟨#[108, 101, 118, 101, 108, 32, 49, 32, 102, 114, 111, 109, 32, 50, 32, 116, 111, 32, 50, 32, 114, 101, 115, 116, 32, 49, 32, 103, 114, 105, 112, 32, 49, 32, 107, 105, 99, 107, 32, 49, 32, 109, 105, 110, 32, 49, 32, 99, 111, 105, 108, 32, 49, 32, 115, 119, 105, 116, 99, 104, 32, 49]⟩ := by rw [h3]; exact rfl
    rw [hT]
    clear h3 hT
    go_enter Tryd.func31, Tryd.ntmps31; (try simp only [List.append_eq, List.cons_append, List.nil_append])
    go_wp2_with fail
    go_ret
    exact ⟨rfl, Below.refl _ _⟩
  have b3 := txt_neL h3
  by_cases h4 : s = ⟨[115, 108, 105, 110, 103].toArray⟩
  · have b4 := txt_eqL h4
    have hT : txtOf s = ⟨#[108, 101, 118, 101, 108, 32, 49, 32, 102, 114, 111, 109, 32, 50, 32, 116, 111, 32, 50, 32, 114, 101, 115, 116, 32, 49, 32, 103, 114, 105, 112, 32, 49, 32, 107, 105, 99, 107, 32, 49, 32, 109, 105, 110, 32, 49, 32, 99, 111, 105, 108, 32, 49, 32, 115, 119, 105, 116, 99, 104, 32, 49]⟩ := by rw [h4]; exact rfl
    rw [hT]
    clear h4 hT
    go_enter Tryd.func31, Tryd.ntmps31; (try simp only [List.append_eq, List.cons_append, List.nil_append])
    go_wp2_with fail
    go_ret
    exact ⟨rfl, Below.refl _ _⟩
  have b4 := txt_neL h4
  by_cases h5 : s = ⟨[97, 114, 99].toArray⟩
  · have b5 := txt_eqL h5
    have hT : txtOf s = ⟨#[108, 101, 118, 101, 108, 32, 49, 32, 99, 101, 110, 116, 101, 114, 32, 50, 32, 102, 114, 111, 109, 32, 50, 32, 116, 111, 32, 50, 32, 114, 101, 115, 116, 32, 49, 32, 103, 114, 105, 112, 32, 49, 32, 109, 105, 110, 32, 49, 32, 115, 119, 105, 116, 99, 104, 32, 49]⟩ := by rw [h5]; exact rfl
    rw [hT]
    clear h5 hT
    go_enter Tryd.func31, Tryd.ntmps31; (try simp only [List.append_eq, List.cons_append, List.nil_append])
    go_wp2_with fail
    go_ret
    exact ⟨rfl, Below.refl _ _⟩
  have b5 := txt_neL h5
  by_cases h6 : s = ⟨[112, 111, 115, 116].toArray⟩
  · have b6 := txt_eqL h6
    have hT : txtOf s = ⟨#[108, 101, 118, 101, 108, 32, 49, 32, 99, 101, 110, 116, 101, 114, 32, 50, 32, 115, 105, 122, 101, 32, 49, 32, 114, 101, 115, 116, 32, 49, 32, 103, 114, 105, 112, 32, 49, 32, 107, 105, 99, 107, 32, 49, 32, 109, 105, 110, 32, 49, 32, 99, 111, 105, 108, 32, 49, 32, 115, 119, 105, 116, 99, 104, 32, 49]⟩ := by rw [h6]; exact rfl
    rw [hT]
    clear h6 hT
    go_enter Tryd.func31, Tryd.ntmps31; (try simp only [List.append_eq, List.cons_append, List.nil_append])
    go_wp2_with fail
    go_ret
    exact ⟨rfl, Below.refl _ _⟩
  have b6 := txt_neL h6
  by_cases h7 : s = ⟨[102, 108, 105, 112, 112, 101, 114].toArray⟩
  · have b7 := txt_eqL h7
    have hT : txtOf s = ⟨#[108, 101, 118, 101, 108, 32, 49, 32, 99, 101, 110, 116, 101, 114, 32, 50, 32, 108, 101, 110, 103, 116, 104, 32, 49, 32, 109, 105, 114, 114, 111, 114, 32, 48, 32, 114, 97, 110, 103, 101, 32, 50, 32, 117, 112, 32, 49, 32, 100, 111, 119, 110, 32, 49, 32, 109, 97, 120, 32, 49, 32, 114, 101, 115, 116, 32, 49, 32, 103, 114, 105, 112, 32, 49, 32, 99, 111, 105, 108, 32, 49, 32, 115, 119, 105, 116, 99, 104, 32, 49]⟩ := by rw [h7]; exact rfl
    rw [hT]
    clear h7 hT
    go_enter Tryd.func31, Tryd.ntmps31; (try simp only [List.append_eq, List.cons_append, List.nil_append])
    go_wp2_with fail
    go_ret
    exact ⟨rfl, Below.refl _ _⟩
  have b7 := txt_neL h7
  by_cases h8 : s = ⟨[122, 111, 110, 101].toArray⟩
  · have b8 := txt_eqL h8
    have hT : txtOf s = ⟨#[108, 101, 118, 101, 108, 32, 49, 32, 102, 114, 111, 109, 32, 50, 32, 116, 111, 32, 50, 32, 104, 97, 108, 102, 32, 50, 32, 99, 111, 105, 108, 32, 49]⟩ := by rw [h8]; exact rfl
    rw [hT]
    clear h8 hT
    go_enter Tryd.func31, Tryd.ntmps31; (try simp only [List.append_eq, List.cons_append, List.nil_append])
    go_wp2_with fail
    go_ret
    exact ⟨rfl, Below.refl _ _⟩
  have b8 := txt_neL h8
  by_cases h9 : s = ⟨[115, 97, 117, 99, 101, 114].toArray⟩
  · have b9 := txt_eqL h9
    have hT : txtOf s = ⟨#[108, 101, 118, 101, 108, 32, 49, 32, 99, 101, 110, 116, 101, 114, 32, 50, 32, 115, 105, 122, 101, 32, 49, 32, 108, 105, 109, 105, 116, 32, 49, 32, 111, 117, 116, 32, 50, 32, 99, 111, 105, 108, 32, 49, 32, 115, 119, 105, 116, 99, 104, 32, 49]⟩ := by rw [h9]; exact rfl
    rw [hT]
    clear h9 hT
    go_enter Tryd.func31, Tryd.ntmps31; (try simp only [List.append_eq, List.cons_append, List.nil_append])
    go_wp2_with fail
    go_ret
    exact ⟨rfl, Below.refl _ _⟩
  have b9 := txt_neL h9
  by_cases h10 : s = ⟨[108, 97, 110, 101].toArray⟩
  · have b10 := txt_eqL h10
    have hT : txtOf s = ⟨#[108, 101, 118, 101, 108, 32, 49, 32, 99, 101, 110, 116, 101, 114, 32, 50, 32, 115, 105, 122, 101, 32, 49, 32, 115, 119, 105, 116, 99, 104, 32, 49]⟩ := by rw [h10]; exact rfl
    rw [hT]
    clear h10 hT
    go_enter Tryd.func31, Tryd.ntmps31; (try simp only [List.append_eq, List.cons_append, List.nil_append])
    go_wp2_with fail
    go_ret
    exact ⟨rfl, Below.refl _ _⟩
  have b10 := txt_neL h10
  by_cases h11 : s = ⟨[114, 97, 109, 112].toArray⟩
  · have b11 := txt_eqL h11
    have hT : txtOf s = ⟨#[108, 101, 118, 101, 108, 32, 49, 32, 105, 110, 116, 111, 32, 49, 32, 99, 101, 110, 116, 101, 114, 32, 50, 32, 115, 105, 122, 101, 32, 49, 32, 100, 105, 114, 32, 50]⟩ := by rw [h11]; exact rfl
    rw [hT]
    clear h11 hT
    go_enter Tryd.func31, Tryd.ntmps31; (try simp only [List.append_eq, List.cons_append, List.nil_append])
    go_wp2_with fail
    go_ret
    exact ⟨rfl, Below.refl _ _⟩
  have b11 := txt_neL h11
  by_cases h12 : s = ⟨[100, 114, 97, 105, 110].toArray⟩
  · have b12 := txt_eqL h12
    have hT : txtOf s = ⟨#[108, 101, 118, 101, 108, 32, 49, 32, 99, 101, 110, 116, 101, 114, 32, 50, 32, 115, 105, 122, 101, 32, 49]⟩ := by rw [h12]; exact rfl
    rw [hT]
    clear h12 hT
    go_enter Tryd.func31, Tryd.ntmps31; (try simp only [List.append_eq, List.cons_append, List.nil_append])
    go_wp2_with fail
    go_ret
    exact ⟨rfl, Below.refl _ _⟩
  have b12 := txt_neL h12
  by_cases h13 : s = ⟨[108, 97, 117, 110, 99, 104, 101, 114].toArray⟩
  · have b13 := txt_eqL h13
    have hT : txtOf s = ⟨#[108, 101, 118, 101, 108, 32, 49, 32, 99, 101, 110, 116, 101, 114, 32, 50, 32, 111, 117, 116, 32, 50, 32, 99, 111, 105, 108, 32, 49]⟩ := by rw [h13]; exact rfl
    rw [hT]
    clear h13 hT
    go_enter Tryd.func31, Tryd.ntmps31; (try simp only [List.append_eq, List.cons_append, List.nil_append])
    go_wp2_with fail
    go_ret
    exact ⟨rfl, Below.refl _ _⟩
  have b13 := txt_neL h13
  have hT : txtOf s = ⟨#[]⟩ := txtOf_none (by intro p hp; simp only [txtTab, List.mem_cons, List.not_mem_nil, or_false] at hp; rcases hp with rfl | rfl | rfl | rfl | rfl | rfl | rfl | rfl | rfl | rfl | rfl | rfl | rfl | rfl <;> assumption)
  rw [hT]
  clear hT h0 h1 h2 h3 h4 h5 h6 h7 h8 h9 h10 h11 h12 h13
  go_enter Tryd.func31, Tryd.ntmps31; (try simp only [List.append_eq, List.cons_append, List.nil_append])
  go_wp2_with fail
  go_ret
  exact ⟨rfl, Below.refl _ _⟩
end Go.Proofs.YteondblmcooklaaDoor
