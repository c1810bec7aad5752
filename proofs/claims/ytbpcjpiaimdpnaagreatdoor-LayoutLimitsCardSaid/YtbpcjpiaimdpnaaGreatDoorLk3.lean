/- Merged texts: SrcB SrcC SrcD LcD LcG SrcQ LcT LcU LcJ LcH LcI ScanC ScanG LcPw LcAwall Inf0w LcLw LcNw LimPw SrcE (what no proof of the claim needs is left out). -/
import Derived.Test.YtbpcjpiaimdpnaaGreatDoorLk2
import Derived.Test.YtbpcjpiaimdpnaaGreatDoorShq
import Derived.Deep.Cut
import Derived.Laws.MakeOwn
import Derived.Lib.Join
set_option linter.unusedSimpArgs false
set_option linter.unusedVariables false
namespace Go.Proofs.YtbpcjpiaimdpnaaGreatDoor
open Go Go.RowKit
set_option linter.unusedVariables false
structure Tabs (w : World) : Prop where
  sp : Lib.TabIs Tryz.prog w "strings.asciiSpace" .u8 Lib.asciiSpaceTab
  pw : Lib.TabIs Tryz.prog w "internal/strconv.uint64pow10" .u64 Lib.pow10Tab
theorem tab_block {w w' : World} {name : String} {k : IntKind} {zs : List Int} {g : Nat} (hg : Tryz.prog.globalNamed name = some g) (h : Lib.TabIs Tryz.prog w name k zs) (hb : w'.heap[g]? = w.heap[g]?) : Lib.TabIs Tryz.prog w' name k zs := by
 unfold Lib.TabIs World.var? at *
 rw [hg] at *
 simp only [Option.bind_some] at *
 rw [hb]; exact h
theorem tab_lt {w : World} {name : String} {k : IntKind} {zs : List Int} {g : Nat} (hg : Tryz.prog.globalNamed name = some g) (h : Lib.TabIs Tryz.prog w name k zs) : g < w.heap.size := by
 rcases Nat.lt_or_ge g w.heap.size with h1 | h1
 · exact h1
 · unfold Lib.TabIs World.var? at h
   rw [hg] at h
   simp only [Option.bind_some, Array.getElem?_eq_none h1] at h
   cases h
theorem gSp : Tryz.prog.globalNamed "strings.asciiSpace" = some 0 := by kernel_rfl
theorem gPw : Tryz.prog.globalNamed "internal/strconv.uint64pow10" = some 2 := by kernel_rfl
theorem Tabs.three {w : World} (h : Tabs w) : 3 ≤ w.heap.size := by
 have := tab_lt gPw h.pw
 omega
theorem Tabs.below {w w' : World} {B : Nat} (h : Tabs w) (hb : Below B w w') (hB : 3 ≤ B) : Tabs w' := ⟨tab_block gSp h.sp (hb.block _ (by omega)), tab_block gPw h.pw (hb.block _ (by omega))⟩
theorem Tabs.but {w w' : World} {rb : Nat} (h : Tabs w) (hb : But rb w w') (hr : 3 ≤ rb) : Tabs w' := by
 have := h.three
 exact ⟨tab_block gSp h.sp (hb.block _ (by omega) (by omega)), tab_block gPw h.pw (hb.block _ (by omega) (by omega))⟩
theorem Tabs.alloc {w : World} (h : Tabs w) (o : Obj) : Tabs (w.alloc o) := h.below ((Below.refl w.heap.size w).alloc (Nat.le_refl _) o) h.three
theorem word_cases (s : ByteArray) : (∃ p ∈ txtTab, s = p.1) ∨ (txtOf s = ⟨#[]⟩ ∧ ksOf s = [] ∧ isWord s = false) := by
 by_cases h : ∃ p ∈ txtTab, s = p.1
 · exact .inl h
 · right
   have h' : ∀ p ∈ txtTab, ¬ s = p.1 := fun p hp e => h ⟨p, hp, e⟩
   have hk : ∀ p ∈ keyTab, ¬ p.1 = s := by
    have hmap : keyTab.map (·.1) = txtTab.map (·.1) := by decide
    intro p hp e
    have : p.1 ∈ txtTab.map (·.1) := by rw [← hmap]; exact List.mem_map_of_mem hp
    obtain ⟨q, hq, hqe⟩ := List.mem_map.1 this
    exact h' q hq (by rw [hqe]; exact e.symm)
   refine ⟨txtOf_none h', ?_, ?_⟩
   · have : keyTab.find? (fun p => decide (p.1 = s)) = none := by
      rw [List.find?_eq_none]
      intro p hp
      simpa using hk p hp
     unfold ksOf
     rw [this]
   · unfold isWord
     rw [List.any_eq_false]
     intro p hp
     simpa using hk p hp
def digT (n : Nat) : ByteArray := ⟨#[UInt8.ofNat (48 + n)]⟩
set_option maxRecDepth 100000 in
theorem fields_txt (s : ByteArray) : (Lib.fields (txtOf s).data.toList).map (fun l => (⟨l.toArray⟩ : ByteArray)) = (ksOf s).flatMap fun p => [p.1, digT p.2] := by
 rcases word_cases s with ⟨p, hp, rfl⟩ | ⟨h1, h2, _⟩
 · simp only [txtTab, List.mem_cons, List.not_mem_nil, or_false] at hp
   rcases hp with rfl | rfl | rfl | rfl | rfl | rfl | rfl | rfl | rfl | rfl | rfl | rfl | rfl | rfl
   all_goals kernel_rfl
 · rw [h1, h2]; rfl
set_option maxRecDepth 100000 in
theorem txt_ok (s : ByteArray) : (txtOf s).size ≤ 200 ∧ (∀ (j : Nat) b, (txtOf s).data.toList[j]? = some b → b.toNat < 128) ∧ (ksOf s).length ≤ 20 ∧ (∀ p ∈ ksOf s, p.2 ≤ 2) := by
 suffices h : decide ((txtOf s).size ≤ 200) = true ∧ ((txtOf s).data.toList.all fun b => decide (b.toNat < 128)) = true ∧ decide ((ksOf s).length ≤ 20) = true ∧ ((ksOf s).all fun p => decide (p.2 ≤ 2)) = true by
  obtain ⟨h1, h2, h3, h4⟩ := h
  rw [List.all_eq_true] at h2 h4
  exact ⟨of_decide_eq_true h1, fun j b hb => of_decide_eq_true (h2 b (List.mem_of_getElem? hb)), of_decide_eq_true h3, fun p hp => of_decide_eq_true (h4 p hp)⟩
 rcases word_cases s with ⟨p, hp, rfl⟩ | ⟨h1, h2, _⟩
 · simp only [txtTab, List.mem_cons, List.not_mem_nil, or_false] at hp
   rcases hp with rfl | rfl | rfl | rfl | rfl | rfl | rfl | rfl | rfl | rfl | rfl | rfl | rfl | rfl
   all_goals exact ⟨by kernel_rfl, by kernel_rfl, by kernel_rfl, by kernel_rfl⟩
 · rw [h1, h2]; exact ⟨rfl, rfl, rfl, rfl⟩
set_option maxRecDepth 100000 in
theorem txt_word (s : ByteArray) : ((txtOf s).toList == []) = !isWord s := by
 rcases word_cases s with ⟨p, hp, rfl⟩ | ⟨h1, _, h3⟩
 · simp only [txtTab, List.mem_cons, List.not_mem_nil, or_false] at hp
   rcases hp with rfl | rfl | rfl | rfl | rfl | rfl | rfl | rfl | rfl | rfl | rfl | rfl | rfl | rfl
   all_goals (rw [ByteArray.toList_eq]; kernel_rfl)
 · rw [h1, h3, ByteArray.toList_eq]; rfl
theorem fields_at {w : World} {l : List (ByteArray × Nat)} {b : Nat} {e : TypeId} {fs : List (List UInt8)} (hf : fs.map (fun l => (⟨l.toArray⟩ : ByteArray)) = l.flatMap fun p => [p.1, digT p.2]) (hb : b = w.heap.size) :
  fs.length = l.length * 2 ∧ ∀ k p, l[k]? = some p → (w.alloc (.cells (fs.map fun l => Value.string ⟨l.toArray⟩).toArray e)).cell? ⟨b, k * 2, none⟩ = some (.string p.1) ∧ (w.alloc (.cells (fs.map fun l => Value.string ⟨l.toArray⟩).toArray e)).cell? ⟨b, k * 2 + 1, none⟩ = some (.string (digT p.2)) := by
 subst hb
 have hl : fs.length = l.length * 2 := by
  have := congrArg List.length hf
  rw [List.length_map] at this
  rw [this]
  clear this hf
  induction l with
  | nil => rfl
  | cons a l ih => rw [List.flatMap_cons, List.length_append, ih]; simp; omega
 have he : fs.map (fun l => Value.string ⟨l.toArray⟩) = l.flatMap fun p => [Value.string p.1, Value.string (digT p.2)] := by
  have h1 : fs.map (fun l => Value.string ⟨l.toArray⟩) = (fs.map (fun l => (⟨l.toArray⟩ : ByteArray))).map Value.string := by rw [List.map_map]; rfl
  rw [h1, hf, List.map_flatMap]
  rfl
 have hc : ∀ k p j u, l[k]? = some p → [Value.string p.1, Value.string (digT p.2)][j]? = some u → (w.alloc (.cells (fs.map fun l => Value.string ⟨l.toArray⟩).toArray e)).cell? ⟨w.heap.size, k * 2 + j, none⟩ = some u := fun k p j u hk hu => by
  rw [World.cell?_alloc_new, he, List.getElem?_toArray]
  exact flat_get (fun p : ByteArray × Nat => [Value.string p.1, Value.string (digT p.2)]) 2 (fun _ => rfl) l k j p u hk hu
 exact ⟨hl, fun k p hk => ⟨hc k p 0 _ hk rfl, hc k p 1 _ hk rfl⟩⟩
theorem arL_step {l : List (ByteArray × Nat)} {k : Nat} {p : ByteArray × Nat} {key : ByteArray} (hk : l[k]? = some p) : arL (l.drop k) key = if p.1 = key then (p.2 : Int) else arL (l.drop (k + 1)) key := by
 obtain ⟨hlt, rfl⟩ := List.getElem?_eq_some_iff.1 hk
 rw [List.drop_eq_getElem_cons hlt]
 unfold arL
 rw [List.find?_cons]
 by_cases h : l[k].1 = key
 · simp [h]
 · simp [h]
theorem arR_bd (word key : ByteArray) : -1 ≤ arR word key ∧ arR word key ≤ 2 := by
 unfold arR arL
 split
 · rename_i p hp
   have := (txt_ok word).2.2.2 p (List.mem_of_find?_eq_some hp)
   omega
 · omega
set_option maxRecDepth 100000 in
set_option maxHeartbeats 1000000 in
theorem arity_any (word key : ByteArray) (w : World) (ht : Tabs w) : Calls Tryz.prog 157 #[.string word, .string key] w fun e w' => e = .returned (.int .i64 (arR word key)) ∧ Below w.heap.size w w' := by
 have h3 := ht.three
 obtain ⟨hs, hasc, hkl, hk2⟩ := txt_ok word
 have HT := hQ0 ht
 have hft := fields_txt word
 obtain ⟨R, hR⟩ : ∃ R, R = arR word key := ⟨_, rfl⟩
 rw [← hR]
 have HR : Hid (arL ((ksOf word).drop 0) key = R) := hQ0 (by rw [hR]; rfl)
 have HA := hQ0 hasc
 have HK2 := hQ0 hk2
 have HF := hQ0 hft
 clear hR ht hasc hft hk2
 obtain ⟨l, hl⟩ : ∃ l, l = ksOf word := ⟨_, rfl⟩
 obtain ⟨t, htx⟩ : ∃ t, t = txtOf word := ⟨_, rfl⟩
 have K := fun W => keys_any word W
 rw [← htx] at hs HA HF K
 rw [← hl] at hkl HK2 HF HR
 clear hl htx
 go_enter Tryz.func157, Tryz.ntmps157; (try simp only [List.append_eq, List.cons_append, List.nil_append])
 go_wp2_with (first | (go_at_call 155; refine (K _).mono ?_; rintro e w1 ⟨rfl, hb_w1⟩) | (go_at_call 185; refine (Tryz.strings_Fields_laid _ _ (by omega) HA.out (HT.out.below hb_w1 h3).sp).mono ?_; rintro e w2 ⟨rfl, rfl⟩))
 have hz1 := hb_w1.size
 have ha := fun (W : World) => fields_at (w := W) (e := 9) HF.out rfl
 obtain ⟨hfl, hca⟩ := ha w1
 have HC := hQ0 hca
 have HB := hQ0 hb_w1
 clear ha hca HF hb_w1
 rw [hfl]
 clear hfl
 go_loop [6] (fun t => ∃ k : Nat, k ≤ l.length ∧ t = .int .i64 ((k * 2 : Nat) : Int) ∧ Hid (arL (l.drop k) key = R)) (fun t => 2 * l.length - (intOf t).toNat)
 case atStart => exact ⟨0, by omega, rfl, HR⟩
 case round =>
  obtain ⟨k, hk, rfl, HJ⟩ := hrel
  by_cases hlt : k < l.length
  · obtain ⟨p, hp⟩ : ∃ p, l[k]? = some p := ⟨l[k], by simp⟩
    obtain ⟨c0, c1⟩ := HC.out k p hp
    have h2 := HK2.out p (List.mem_of_getElem? hp)
    have hst := arL_step (key := key) hp
    have i1 : ((k * 2 : Nat) : Int) + 1 < ((l.length * 2 : Nat) : Int) := by omega
    by_cases he : p.1 = key
    · rw [if_pos he] at hst
      have b1 : (p.1.toList == key.toList) = true := by rw [he]; exact beq_self_eq_true _
      obtain rfl : R = (p.2 : Int) := by rw [← HJ.out]; exact hst
      obtain ⟨p1, n⟩ := p
      simp only at h2 b1 c0 c1 ⊢
      clear hst he hp HJ HC
      rcases (by omega : n = 0 ∨ n = 1 ∨ n = 2) with rfl | rfl | rfl
      all_goals
       simp only [digT] at c1
       go_wp2_with fail
       go_ret
       exact ⟨rfl, HB.out.alloc hz1 _⟩
    · rw [if_neg he] at hst
      have b1 : (p.1.toList == key.toList) = false := by
       rw [beq_eq_false_iff_ne]; intro e
       rw [ByteArray.toList_eq, ByteArray.toList_eq] at e
       exact he (ByteArray.ext (Array.ext' e))
      have hnx := hQ0 (hst.symm.trans HJ.out)
      clear hst he
      go_wp2_with fail
      go_round
      case rel => exact ⟨k + 1, by omega, by go_num, hnx⟩
      case measure => simp [intOf]; omega
  · obtain rfl : k = l.length := by omega
    have i1 : ¬ ((l.length * 2 : Nat) : Int) + 1 < ((l.length * 2 : Nat) : Int) := by omega
    obtain rfl : R = -1 := by rw [← HJ.out, List.drop_length]; rfl
    go_wp2_with fail
    go_ret
    exact ⟨rfl, HB.out.alloc hz1 _⟩
structure RdAt (w : World) (rb N : Nat) (A : Option Addr) (l : List WV) (e c : Nat) : Prop where
  hw : w.cell? ⟨rb, 0, none⟩ = some (.slice A l.length c)
  he : w.cell? ⟨rb, 1, none⟩ = some (.int .i64 e)
  fz : ∀ o, w.frozen? ⟨rb, o, none⟩ = false
  lt : rb < w.heap.size
  nle : N ≤ rb
  cap : l.length ≤ c
  ws : WvAt w N A l
theorem RdAt.below {w w' : World} {rb N B : Nat} {A : Option Addr} {l : List WV} {e c : Nat} (h : RdAt w rb N A l e c) (hb : Below B w w') (hB : w.heap.size ≤ B) : RdAt w' rb N A l e c :=
 have h1 : rb < B := Nat.lt_of_lt_of_le h.lt hB
 ⟨(hb.cell (p := ⟨rb, 0, none⟩) h1).trans h.hw, (hb.cell (p := ⟨rb, 1, none⟩) h1).trans h.he, fun o => (hb.frozen (p := ⟨rb, o, none⟩) h1).trans (h.fz o), Nat.lt_of_lt_of_le h.lt hb.size, h.nle, h.cap, h.ws.below hb (by have := h.nle; omega)⟩
theorem RdAt.set {w : World} {rb N : Nat} {A : Option Addr} {l : List WV} {e c : Nat} (h : RdAt w rb N A l e c) {p : Addr} (u : Value) (hp : rb < p.block) : RdAt (w.setCell p u) rb N A l e c := by
 have hk : ∀ b, b ≤ rb → (w.setCell p u).heap[b]? = w.heap[b]? := fun b hb => Below.heap_setCell _ _ _ _ (by omega)
 have hn := h.nle
 refine ⟨(World.cell?_of_block (hk rb (Nat.le_refl _))).trans h.hw, (World.cell?_of_block (hk rb (Nat.le_refl _))).trans h.he, fun o => (World.frozen?_of_block (hk rb (Nat.le_refl _))).trans (h.fz o), by simpa using h.lt, h.nle, h.cap, fun k x hx => ?_⟩
 obtain ⟨g, o, hA, hg, hc⟩ := h.ws k x hx
 exact ⟨g, o, hA, hg, fun j u hu => (World.cell?_of_block (hk g (by omega))).trans (hc j u hu)⟩
theorem RdAt.grown {w w' : World} {rb N : Nat} {A : Option Addr} {l : List WV} {e c : Nat} {row : Option Nat} (h : RdAt w rb N A l e c) (hg : w.grownBy w' row) (hr : ∀ k, row = some k → rb < k) : RdAt w' rb N A l e c := by
 have hl := h.lt
 have hk : ∀ b, b ≤ rb → w'.heap[b]? = w.heap[b]? := fun b hb => hg.block b (by omega) (fun e => by have := hr b e.symm; omega)
 have hn := h.nle
 refine ⟨(World.cell?_of_block (hk rb (Nat.le_refl _))).trans h.hw, (World.cell?_of_block (hk rb (Nat.le_refl _))).trans h.he, fun o => (World.frozen?_of_block (hk rb (Nat.le_refl _))).trans (h.fz o), Nat.lt_of_lt_of_le h.lt hg.size, h.nle, h.cap, fun k x hx => ?_⟩
 obtain ⟨g, o, hA, hg', hc⟩ := h.ws k x hx
 exact ⟨g, o, hA, hg', fun j u hu => (World.cell?_of_block (hk g (by omega))).trans (hc j u hu)⟩
theorem RdAt.alloc {w : World} {rb N : Nat} {A : Option Addr} {l : List WV} {e c : Nat} (h : RdAt w rb N A l e c) (o : Obj) : RdAt (w.alloc o) rb N A l e c := h.below ((Below.refl w.heap.size w).alloc (Nat.le_refl _) o) (Nat.le_refl _)
def flt (e : Int) (a : Nat) : List PanicEntry := [{ v := .iface 155 (.agg #[.int .i64 e, .int .i64 a]), recovered := false }]
def vOfW (x : WV) : Value := .agg #[.int .i64 x.kind, .string x.text, .int .i64 x.num, .int .i64 x.at_]
theorem rdat_any (w : World) (rb N e c : Nat) (A : Option Addr) (l : List WV) (h : RdAt w rb N A l e c) : Calls Tryz.prog 92 #[.pointer (some ⟨rb, 0, none⟩)] w fun ε w' => ε = .returned (.int .i64 (atR l e : Nat)) ∧ w = w' := by
 obtain ⟨hw, he, fz, lt, nle, cap, ws⟩ := h
 cases l with
 | nil =>
  clear ws cap
  simp only [List.length_nil] at hw
  go_enter Tryz.func92, Tryz.ntmps92; (try simp only [List.append_eq, List.cons_append, List.nil_append])
  go_wp2_with fail
  go_ret
  exact ⟨rfl, rfl⟩
 | cons x l =>
  obtain ⟨g, o, rfl⟩ := ws.form
  obtain ⟨hg, c0, c1, c2, c3⟩ := ws.head
  simp only [List.length_cons] at hw cap
  have i1 : ¬ ((l.length + 1 : Nat) : Int) = 0 := by omega
  have i2 : (0 : Int) < ((l.length + 1 : Nat) : Int) := by omega
  clear ws
  go_enter Tryz.func92, Tryz.ntmps92; (try simp only [List.append_eq, List.cons_append, List.nil_append])
  go_wp2_with fail
  go_ret
  exact ⟨rfl, rfl⟩
theorem is_any (w : World) (rb N e c : Nat) (A : Option Addr) (l : List WV) (h : RdAt w rb N A l e c) (k : Int) : Calls Tryz.prog 156 #[.pointer (some ⟨rb, 0, none⟩), .int .i64 k] w fun ε w' => ε = .returned (.bool (isK l k)) ∧ w = w' := by
 obtain ⟨hw, he, fz, lt, nle, cap, ws⟩ := h
 cases l with
 | nil =>
  clear ws cap
  simp only [List.length_nil] at hw
  go_enter Tryz.func156, Tryz.ntmps156; (try simp only [List.append_eq, List.cons_append, List.nil_append])
  go_wp2_with fail
  go_ret
  exact ⟨rfl, rfl⟩
 | cons x l =>
  obtain ⟨g, o, rfl⟩ := ws.form
  obtain ⟨hg, c0, c1, c2, c3⟩ := ws.head
  simp only [List.length_cons] at hw cap
  have i1 : (0 : Int) < ((l.length + 1 : Nat) : Int) := by omega
  clear ws
  go_enter Tryz.func156, Tryz.ntmps156; (try simp only [List.append_eq, List.cons_append, List.nil_append])
  go_wp2_with fail
  go_ret
  refine ⟨?_, rfl⟩
  simp [isK, Bool.beq_eq_decide_eq]
theorem take_bad (w : World) (rb N e c : Nat) (A : Option Addr) (l : List WV) (h : RdAt w rb N A l e c) (k : Int) (hk : isK l k = false) : Calls Tryz.prog 154 #[.pointer (some ⟨rb, 0, none⟩), .int .i64 k] w fun ε w' => ε = .panicked (flt 4 (atR l e)) ∧ Below w.heap.size w w' := by
 have h1 := h.alloc (.cells #[.int .i64 0, .string ⟨#[]⟩, .int .i64 0, .int .i64 0] 239)
 go_enter Tryz.func154, Tryz.ntmps154; (try simp only [List.append_eq, List.cons_append, List.nil_append])
 go_wp2_with (first | (go_at_call 156; refine (is_any _ _ _ _ _ _ _ h1 _).mono ?_; rintro e w1 ⟨rfl, rfl⟩) | (go_at_call 92; refine (rdat_any _ _ _ _ _ _ _ h1).mono ?_; rintro e w1 ⟨rfl, rfl⟩))
 exact ⟨rfl, rfl, by ((with_reducible (repeat (first | exact bR _ _ | apply bS | apply bA | apply bD | refine bT ?_ (by assumption) ?_ | refine bO (by assumption) ?_ ?_))) <;> (first | omega | (simp <;> omega)))⟩
theorem take_ok (w : World) (rb N e c : Nat) (A : Option Addr) (x : WV) (l : List WV) (h : RdAt w rb N A (x :: l) e c) (k : Int) (hk : x.kind = k) : Calls Tryz.prog 154 #[.pointer (some ⟨rb, 0, none⟩), .int .i64 k] w fun ε w' => ε = .returned (vOfW x) ∧ But rb w w' ∧ ∃ A' c', RdAt w' rb N A' l e c' := by
 have h1 := h.alloc (.cells #[.int .i64 0, .string ⟨#[]⟩, .int .i64 0, .int .i64 0] 239)
 have hk' : isK (x :: l) k = true := by simp [isK, hk]
 obtain ⟨hw, he, fz, lt, nle, cap, ws⟩ := h
 obtain ⟨g, o, rfl⟩ := ws.form
 obtain ⟨hg, c0, c1, c2, c3⟩ := ws.head
 simp only [List.length_cons] at hw cap
 have i1 : (0 : Int) < ((l.length + 1 : Nat) : Int) := by omega
 have l1 : g < w.heap.size := by omega
 go_enter Tryz.func154, Tryz.ntmps154; (try simp only [List.append_eq, List.cons_append, List.nil_append])
 go_wp2_with (first | (go_at_call 156; refine (is_any _ _ _ _ _ _ _ h1 _).mono ?_; rintro e w1 ⟨rfl, rfl⟩) | (go_at_call 92; refine (rdat_any _ _ _ _ _ _ _ h1).mono ?_; rintro e w1 ⟨rfl, rfl⟩))
 · obtain rfl : l = [] := by
    cases l with
    | nil => rfl
    | cons y l => simp only [List.length_cons] at cap; omega
   have hbut := ((((But.refl rb w).set (p := ⟨rb, 0, none⟩) (Value.slice (some ⟨g, o, none⟩) ([] : List WV).length 0) (.inl rfl)).alloc (.cells #[.int .i64 k, .string x.text, .int .i64 x.num, .int .i64 x.at_] 239)).alloc (.cells #[.int .i64 k, .string x.text, .int .i64 x.num, .int .i64 x.at_] 239))
   refine bodyPost_ret (v := .agg #[.int .i64 k, .string x.text, .int .i64 x.num, .int .i64 x.at_]) (by simp only [results, Tryz.results154]; go_simp) rfl ⟨?_, ?_⟩
   · rw [← hk]; rfl
   refine ⟨hbut, some ⟨g, o, none⟩, 0, ?_, ?_, ?_, ?_, nle, Nat.le_refl _, ?_⟩
   · go_simp
   · go_simp; try exact he
   · intro o; go_simp; try exact fz o
   · simp; omega
   · exact fun k y hy => by simp at hy
 · have hbut := ((((But.refl rb w).set (p := ⟨rb, 0, none⟩) (Value.slice (some ⟨g, o + 4, none⟩) l.length (c - 1)) (.inl rfl)).alloc (.cells #[.int .i64 k, .string x.text, .int .i64 x.num, .int .i64 x.at_] 239)).alloc (.cells #[.int .i64 k, .string x.text, .int .i64 x.num, .int .i64 x.at_] 239))
   refine bodyPost_ret (v := .agg #[.int .i64 k, .string x.text, .int .i64 x.num, .int .i64 x.at_]) (by simp only [results, Tryz.results154]; go_simp) rfl ⟨?_, ?_⟩
   · rw [← hk]; rfl
   refine ⟨hbut, some ⟨g, o + 4, none⟩, c - 1, ?_, ?_, ?_, ?_, nle, by omega, ?_⟩
   · go_simp
   · go_simp; try exact he
   · intro o; go_simp; try exact fz o
   · simp; omega
   · exact WvAt.tail (ws.but hbut (by omega) nle)
def CIOut (l : List Int) (w : World) (e : Ending) (w' : World) : Prop := Below w.heap.size w w' ∧ ∃ A c, e = .returned (.slice A l.length c) ∧ w'.ownsRow w.heap.size 3 1 (.slice A l.length c) l.length (l.map (Value.int .i64))
theorem clonei_any (l : List Int) (A : Option Addr) (c : Nat) (w : World) (hl : l.length ≤ 1000) (hV : IAt w A l) :
  Calls Tryz.prog 125 #[.slice A l.length c] w (CIOut l w) := by
 rcases A with _ | a
 · have hnil : l = [] := by
    cases l with
    | nil => rfl
    | cons x l => obtain ⟨g, o, hA, _⟩ := hV 0 x rfl; cases hA
   subst hnil
   exact (Tryz.slices_Clone_int_nil 0 c w).mono fun e w' ⟨he, hw⟩ => by subst hw; exact ⟨Below.refl _ _, none, 0, he, World.ownsRow_nil _ _ _ _⟩
 · rcases Nat.eq_zero_or_pos l.length with h0 | h0
   · obtain rfl := List.length_eq_zero_iff.1 h0
     refine (Tryz.slices_Clone_int_zero a c w).mono fun e w' ⟨v', he, ho, _, hb⟩ => ?_
     obtain ⟨A', c', rfl⟩ := own_sl ho
     exact ⟨hb, A', c', he, ho⟩
   · obtain ⟨x0, hx0⟩ : ∃ x, l[0]? = some x := ⟨l[0], by simp⟩
     obtain ⟨g, o, hA, _, _⟩ := hV 0 x0 hx0
     obtain rfl : a = ⟨g, o, none⟩ := Option.some.inj hA
     refine (Tryz.slices_Clone_int g o l.length c l w (Nat.le_refl _) (by omega) (fun j hj => ?_)).mono fun e w' ⟨v', he, ho, _, hb⟩ => ?_
     · obtain ⟨x, hx⟩ : ∃ x, l[j]? = some x := ⟨l[j], by simp⟩
       obtain ⟨g', o', hA', _, h1⟩ := hV j x hx
       have e := Option.some.inj hA'
       simp only [Addr.mk.injEq, and_true] at e
       obtain ⟨rfl, rfl⟩ := e
       rw [h1, List.getD_eq_getElem?_getD, hx]; rfl
     · rw [List.take_length] at ho
       obtain ⟨A', c', rfl⟩ := own_sl ho
       exact ⟨hb, A', c', he, ho⟩
def vOfX (x : IV) (B : Option Addr) (d : Nat) : Value := .agg #[.string x.word, .string x.name, .slice B x.keys.length d, .int .i64 x.at_]
def vOfK (x : KV) (B : Option Addr) (d : Nat) : Value := .agg #[.string x.key, .slice B x.vals.length d, .int .i64 x.at_]
def GetOut (R : Option (List Int)) (w : World) (e : Ending) (w' : World) : Prop := Below w.heap.size w w' ∧ match R with
  | none => e = .returned (.tuple #[.slice none 0 0, .bool false])
  | some vs => ∃ A c, e = .returned (.tuple #[.slice A vs.length c, .bool true]) ∧ OwnI w' w.heap.size A c vs
theorem getR_step {l : List KV} {k : Nat} {p : KV} {key : ByteArray} (hk : l[k]? = some p) : getR (l.drop k) key = if p.key = key then some p.vals else getR (l.drop (k + 1)) key := by
 obtain ⟨hlt, rfl⟩ := List.getElem?_eq_some_iff.1 hk
 rw [List.drop_eq_getElem_cons hlt]
 unfold getR
 rw [List.find?_cons]
 by_cases h : l[k].key = key
 · simp [h]
 · simp [h]
set_option maxHeartbeats 1000000 in
theorem get_any (x : IV) (B : Option Addr) (d : Nat) (key : ByteArray) (w : World) (hK : KsAt w B x.keys) (hl : x.keys.length ≤ 1000000) (hv : ∀ k ∈ x.keys, k.vals.length ≤ 1000) :
  Calls Tryz.prog 103 #[vOfX x B d, .string key] w (GetOut (getR x.keys key) w) := by
 obtain ⟨ks, hks⟩ : ∃ ks, ks = x.keys := ⟨_, rfl⟩
 obtain ⟨R, hR⟩ : ∃ R, R = getR ks key := ⟨_, rfl⟩
 unfold vOfX
 rw [← hks] at hK hl hv ⊢
 rw [← hR]
 have HR : Hid (getR (ks.drop 0) key = R) := hQ0 (by rw [hR]; rfl)
 have HK := hQ0 hK
 have HV := hQ0 hv
 clear hR hks hK hv
 go_enter Tryz.func103, Tryz.ntmps103; (try simp only [List.append_eq, List.cons_append, List.nil_append])
 go_wp2_with fail
 go_loopw [11] (fun t wr => ∃ k : Nat, k ≤ ks.length ∧ t = .int .i64 k ∧ Below w.heap.size w wr ∧ Hid (getR (ks.drop k) key = R)) (fun t _ => ks.length - (intOf t).toNat)
 case atStart => exact ⟨0, by omega, rfl, (by ((with_reducible (repeat (first | exact bR _ _ | apply bS | apply bA | apply bD | refine bT ?_ (by assumption) ?_ | refine bO (by assumption) ?_ ?_))) <;> (first | omega | (simp <;> omega)))), HR⟩
 case round =>
  obtain ⟨k, hk, rfl, hb_wr, HJ⟩ := hrel
  have hz_wr := hb_wr.size
  by_cases hlt : k < ks.length
  · obtain ⟨p, hp⟩ : ∃ p, ks[k]? = some p := ⟨ks[k], by simp⟩
    obtain ⟨g, o, C, q, rfl, hg, ⟨c0, c1, c2⟩, hI⟩ := (HK.out.below hb_wr (Nat.le_refl _)) k p hp
    have hst := getR_step (key := key) hp
    have HI := hQ0 hI
    have HB := hQ0 hb_wr
    have i1 : (k : Int) < (ks.length : Int) := by omega
    have hvl := HV.out p (List.mem_of_getElem? hp)
    clear hI hb_wr
    by_cases he : p.key = key
    · rw [if_pos he] at hst
      have b1 : (p.key.toList == key.toList) = true := by rw [he]; exact beq_self_eq_true _
      obtain rfl : R = some p.vals := by rw [← HJ.out]; exact hst
      clear hst he HJ HR
      have K := fun (W : World) (h : IAt W C p.vals) => clonei_any p.vals C q W hvl h
      go_wp2_with (go_at_call 125; refine (K _ (HI.out.below (by ((with_reducible (repeat (first | exact bR _ _ | apply bS | apply bA | apply bD | refine bT ?_ (by assumption) ?_ | refine bO (by assumption) ?_ ?_))) <;> (first | omega | (simp <;> omega)))) (Nat.le_refl _))).mono ?_; rintro e w2 ⟨hb_w2, A, c, rfl, ho⟩)
      go_ret2
      have hs2 : wr.heap.size ≤ wr.heap.size + 1 := by omega
      refine ⟨(HB.out.alloc hz_wr _).trans (hb_w2.mono (by simp; omega)), A, c, rfl, OwnI.weaker ho (by simp; omega)⟩
    · rw [if_neg he] at hst
      have b1 : (p.key.toList == key.toList) = false := txt_neT he
      have hnx := hQ0 (hst.symm.trans HJ.out)
      clear hst he HR HJ
      go_wp2_with fail
      go_roundw
      case rel => exact ⟨k + 1, by omega, by go_num, HB.out.alloc hz_wr _, hnx⟩
      case measure => simp [intOf]; omega
  · obtain rfl : k = ks.length := by omega
    obtain rfl : R = none := by rw [← HJ.out, List.drop_length]; rfl
    go_wp2_with fail
    go_ret2
    exact ⟨hb_wr, rfl⟩
structure VAt (w : World) (vb : Nat) (x : IV) (B : Option Addr) (d : Nat) (m : Bool) : Prop where
  bx : BoxAt w vb [.string x.word, .string x.name, .slice B x.keys.length d, .int .i64 x.at_, .bool m]
  ks : ∃ w0 : World, KsAt w0 B x.keys ∧ Below w0.heap.size w0 w ∧ w0.heap.size ≤ vb
theorem VAt.kat {w : World} {vb : Nat} {x : IV} {B : Option Addr} {d : Nat} {m : Bool} (h : VAt w vb x B d m) : KsAt w B x.keys := by
 obtain ⟨w0, h1, h2, _⟩ := h.ks
 exact h1.below h2 (Nat.le_refl _)
theorem VAt.below {w w' : World} {vb : Nat} {x : IV} {B : Option Addr} {d : Nat} {m : Bool} (h : VAt w vb x B d m) (hb : Below w.heap.size w w') : VAt w' vb x B d m := ⟨h.bx.below hb h.bx.lt, by
  obtain ⟨w0, h1, h2, h3⟩ := h.ks
  exact ⟨w0, h1, h2.trans (hb.mono h2.size), h3⟩⟩
def IvOk (x : IV) : Prop := x.keys.length ≤ 1000000 ∧ ∀ k ∈ x.keys, k.vals.length ≤ 1000
def orR (x : IV) (key : ByteArray) (other : Int) : Int := match getR x.keys key with
  | some vs => vs.headD 0
  | none => other
def listR (x : IV) (key : ByteArray) (n : Nat) : List Int := (getR x.keys key).getD (List.replicate n 0)
def missR (x : IV) (key : ByteArray) (m : Bool) : Bool := m || (getR x.keys key).isNone
set_option maxRecDepth 100000 in
set_option maxHeartbeats 1000000 in
theorem or_any (w : World) (vb : Nat) (x : IV) (B : Option Addr) (d : Nat) (m : Bool) (key : ByteArray) (other : Int) (h : VAt w vb x B d m) (ho : IvOk x) (hn : ∀ vs, getR x.keys key = some vs → vs ≠ []) :
  Calls Tryz.prog 96 #[.pointer (some ⟨vb, 0, none⟩), .string key, .int .i64 other] w fun e w' => e = .returned (.int .i64 (orR x key other)) ∧ Below w.heap.size w w' := by
 have v0 := h.bx.c 0 (.string x.word) rfl
 have v1 := h.bx.c 1 (.string x.name) rfl
 have v2 := h.bx.c 2 (.slice B x.keys.length d) rfl
 have v3 := h.bx.c 3 (.int .i64 x.at_) rfl
 have K := get_any x B d key w h.kat ho.1 ho.2
 unfold vOfX at K
 unfold orR
 cases hG : getR x.keys key with
 | none =>
  rw [hG] at K
  have HK := hQ0 K
  clear hG K hn
  go_enter Tryz.func96, Tryz.ntmps96; (try simp only [List.append_eq, List.cons_append, List.nil_append])
  go_wp2_with (go_at_call 103; refine HK.out.mono ?_; rintro e w1 ⟨hb1, rfl⟩)
  go_ret
  exact ⟨rfl, hb1⟩
 | some vs =>
  obtain ⟨a, vs, rfl⟩ : ∃ a l, vs = a :: l := by cases vs with
   | nil => exact absurd rfl (hn _ hG)
   | cons a l => exact ⟨a, l, rfl⟩
  rw [hG] at K
  have HK := hQ0 K
  clear hG K hn
  go_enter Tryz.func96, Tryz.ntmps96; (try simp only [List.append_eq, List.cons_append, List.nil_append])
  go_wp2_with (go_at_call 103; refine HK.out.mono ?_; rintro e w1 ⟨hb1, A, c, rfl, hown⟩; (obtain ⟨g, o, rfl, hg, cA⟩ := (OwnI.iat hown) 0 a rfl); simp only [Nat.add_zero] at cA; have hlen : (0 : Int) < ((a :: vs).length : Int) := (by have h_ : 0 < (a :: vs).length := Nat.succ_pos _; omega))
  go_ret
  exact ⟨rfl, hb1⟩
theorem BoxAt.set {w : World} {b j : Nat} {cs : List Value} {old : Value} (u : Value) (h : BoxAt w b cs) (hj : cs[j]? = some old) : BoxAt (w.setCell ⟨b, j, none⟩ u) b (cs.set j u) := by
 refine ⟨fun k v hk => ?_, fun o => ?_, by simpa using h.lt⟩
 · by_cases e : j = k
   · subst e
     have hlt := (List.getElem?_eq_some_iff.1 hj).1
     rw [List.getElem?_set_self hlt] at hk
     cases hk
     exact World.cell?_setCell_same w _ u (h.c j old hj)
   · rw [List.getElem?_set_ne e] at hk
     exact (World.cell?_setCell_other w _ _ u (fun q => e (by simp only [Addr.mk.injEq] at q; exact q.2.1))).trans (h.c k v hk)
 · have := h.fz o
   go_simp
def ListOut (vs : List Int) (x : IV) (B : Option Addr) (d vb : Nat) (m : Bool) (w : World) (e : Ending) (w' : World) : Prop := ∃ A c, e = .returned (.slice A vs.length c) ∧ IAt w' A vs ∧ But vb w w' ∧ VAt w' vb x B d m
theorem iat_zeros (w : World) (n : Nat) (e : TypeId) : IAt (w.alloc (.cells ((List.replicate n (Value.int .i64 0))).toArray e)) (some ⟨w.heap.size, 0, none⟩) (List.replicate n 0) := fun k x hk => by
 obtain ⟨h1, h2⟩ := List.getElem?_eq_some_iff.1 hk
 rw [List.getElem_replicate] at h2
 subst h2
 rw [List.length_replicate] at h1
 refine ⟨_, 0, rfl, by simp, ?_⟩
 rw [World.cell?_alloc_new]
 simp [h1]
theorem make_ints (n : Nat) (hn : n ≤ 1000) (w : World) : (Instr.makeSlice 24 (.int .i64 (n : Int)) (.int .i64 (n : Int))).run Tryz.prog w = .ok (.slice (some ⟨w.heap.size, 0, none⟩) n n) (w.alloc (.cells (madeCells #[.int .i64 0] n) 3)) := by
 have hI := intInfo
 cases hi : Tryz.prog.info? 3 with
 | none => rw [hi] at hI; cases hI
 | some i =>
  rw [hi] at hI
  simp only [Option.map_some, Option.some.injEq, Prod.mk.injEq] at hI
  obtain ⟨hz, hs, hb⟩ := hI
  have hr := run_make (P := Tryz.prog) w 24 3 i _ Tryz.underlying24 hi hz .i64 .i64 n n (by omega) (Int.le_refl _) (by rw [hb]; omega) (by omega)
  simp only [Int.toNat_natCast, hs, Nat.mul_one] at hr
  exact hr
theorem make_1 (w : World) : (Instr.makeSlice 24 (.int .i64 1) (.int .i64 1)).run Tryz.prog w = .ok (.slice (some ⟨w.heap.size, 0, none⟩) 1 1) (w.alloc (.cells #[.int .i64 0] 3)) := by
 have e : madeCells #[Value.int .i64 0] 1 = #[.int .i64 0] := by first | kernel_rfl | rfl
 have h := make_ints 1 (by omega) w
 rw [e] at h
 exact h
theorem make_2 (w : World) : (Instr.makeSlice 24 (.int .i64 2) (.int .i64 2)).run Tryz.prog w = .ok (.slice (some ⟨w.heap.size, 0, none⟩) 2 2) (w.alloc (.cells #[.int .i64 0, .int .i64 0] 3)) := by
 have e : madeCells #[Value.int .i64 0] 2 = #[.int .i64 0, .int .i64 0] := by first | kernel_rfl | rfl
 have h := make_ints 2 (by omega) w
 rw [e] at h
 exact h
set_option maxRecDepth 100000 in
set_option maxHeartbeats 1000000 in
theorem list_any1 (w : World) (vb : Nat) (x : IV) (B : Option Addr) (d : Nat) (m : Bool) (key : ByteArray) (h : VAt w vb x B d m) (ho : IvOk x) :
  Calls Tryz.prog 102 #[.pointer (some ⟨vb, 0, none⟩), .string key, .int .i64 1] w (ListOut (listR x key 1) x B d vb (missR x key m) w) := by
 have v0 := h.bx.c 0 (.string x.word) rfl
 have v1 := h.bx.c 1 (.string x.name) rfl
 have v2 := h.bx.c 2 (.slice B x.keys.length d) rfl
 have v3 := h.bx.c 3 (.int .i64 x.at_) rfl
 have K := get_any x B d key w h.kat ho.1 ho.2
 unfold vOfX at K
 unfold listR missR
 have HV := hQ0 h
 cases hG : getR x.keys key with
 | none =>
  rw [hG] at K
  have HK := hQ0 K
  have hlt := h.bx.lt
  clear hG K h
  simp only [Option.isNone_none, Bool.or_true, Option.getD_none]
  have hmk := make_1
  go_enter Tryz.func102, Tryz.ntmps102; (try simp only [List.append_eq, List.cons_append, List.nil_append])
  go_wp2_with (go_at_call 103; refine HK.out.mono ?_; rintro e w1 ⟨hb1, rfl⟩; (have hV1 := HV.out.below hb1); have v4 := hV1.bx.c 4 (.bool m) rfl; have vz := hV1.bx.fz 4; have hlt1 := hV1.bx.lt)
  go_ret
  have hV1 := HV.out.below hb1
  have hb := hV1.bx.set (.bool true) (j := 4) rfl
  have z := iat_zeros (w1.setCell ⟨vb, 4, none⟩ (.bool true)) 1 3
  have hsz : (w1.setCell ⟨vb, 4, none⟩ (.bool true)).heap.size = w1.heap.size := by simp
  rw [hsz] at z
  refine ⟨_, _, rfl, z, (But.set (p := ⟨vb, 4, none⟩) (But.of_below hb1 (Nat.le_refl _)) (.bool true) (.inl rfl)).alloc _, hb.alloc _, ?_⟩
  obtain ⟨w0, q1, q2, q3⟩ := hV1.ks
  exact ⟨w0, q1, (q2.setCell (by simpa using q3) _).alloc (by simpa using q2.size) _, q3⟩
 | some vs =>
  rw [hG] at K
  have HK := hQ0 K
  clear hG K
  simp only [Option.isNone_some, Bool.or_false, Option.getD_some]
  go_enter Tryz.func102, Tryz.ntmps102; (try simp only [List.append_eq, List.cons_append, List.nil_append])
  go_wp2_with (go_at_call 103; refine HK.out.mono ?_; rintro e w1 ⟨hb1, A, c, rfl, hown⟩)
  go_ret
  exact ⟨A, c, rfl, OwnI.iat hown, But.of_below hb1 (Nat.le_refl _), HV.out.below hb1⟩
set_option maxRecDepth 100000 in
set_option maxHeartbeats 1000000 in
theorem list_any2 (w : World) (vb : Nat) (x : IV) (B : Option Addr) (d : Nat) (m : Bool) (key : ByteArray) (h : VAt w vb x B d m) (ho : IvOk x) :
  Calls Tryz.prog 102 #[.pointer (some ⟨vb, 0, none⟩), .string key, .int .i64 2] w (ListOut (listR x key 2) x B d vb (missR x key m) w) := by
 have v0 := h.bx.c 0 (.string x.word) rfl
 have v1 := h.bx.c 1 (.string x.name) rfl
 have v2 := h.bx.c 2 (.slice B x.keys.length d) rfl
 have v3 := h.bx.c 3 (.int .i64 x.at_) rfl
 have K := get_any x B d key w h.kat ho.1 ho.2
 unfold vOfX at K
 unfold listR missR
 have HV := hQ0 h
 cases hG : getR x.keys key with
 | none =>
  rw [hG] at K
  have HK := hQ0 K
  have hlt := h.bx.lt
  clear hG K h
  simp only [Option.isNone_none, Bool.or_true, Option.getD_none]
  have hmk := make_2
  go_enter Tryz.func102, Tryz.ntmps102; (try simp only [List.append_eq, List.cons_append, List.nil_append])
  go_wp2_with (go_at_call 103; refine HK.out.mono ?_; rintro e w1 ⟨hb1, rfl⟩; (have hV1 := HV.out.below hb1); have v4 := hV1.bx.c 4 (.bool m) rfl; have vz := hV1.bx.fz 4; have hlt1 := hV1.bx.lt)
  go_ret
  have hV1 := HV.out.below hb1
  have hb := hV1.bx.set (.bool true) (j := 4) rfl
  have z := iat_zeros (w1.setCell ⟨vb, 4, none⟩ (.bool true)) 2 3
  have hsz : (w1.setCell ⟨vb, 4, none⟩ (.bool true)).heap.size = w1.heap.size := by simp
  rw [hsz] at z
  refine ⟨_, _, rfl, z, (But.set (p := ⟨vb, 4, none⟩) (But.of_below hb1 (Nat.le_refl _)) (.bool true) (.inl rfl)).alloc _, hb.alloc _, ?_⟩
  obtain ⟨w0, q1, q2, q3⟩ := hV1.ks
  exact ⟨w0, q1, (q2.setCell (by simpa using q3) _).alloc (by simpa using q2.size) _, q3⟩
 | some vs =>
  rw [hG] at K
  have HK := hQ0 K
  clear hG K
  simp only [Option.isNone_some, Bool.or_false, Option.getD_some]
  go_enter Tryz.func102, Tryz.ntmps102; (try simp only [List.append_eq, List.cons_append, List.nil_append])
  go_wp2_with (go_at_call 103; refine HK.out.mono ?_; rintro e w1 ⟨hb1, A, c, rfl, hown⟩)
  go_ret
  exact ⟨A, c, rfl, OwnI.iat hown, But.of_below hb1 (Nat.le_refl _), HV.out.below hb1⟩
def vecR (x : IV) (key : ByteArray) : Vc := ⟨(listR x key 2).getD 0 0, (listR x key 2).getD 1 0⟩
def oneR (x : IV) (key : ByteArray) : Int := (listR x key 1).getD 0 0
def KeyOut (v : Value) (x : IV) (B : Option Addr) (d vb : Nat) (m : Bool) (w : World) (e : Ending) (w' : World) : Prop := e = .returned v ∧ But vb w w' ∧ VAt w' vb x B d m
theorem listR_two {x : IV} {key : ByteArray} (hn : ∀ vs, getR x.keys key = some vs → vs.length = 2) : listR x key 2 = [(vecR x key).x, (vecR x key).y] := by
 unfold vecR
 have h2 : (listR x key 2).length = 2 := by
  unfold listR
  cases hG : getR x.keys key with
  | none => rfl
  | some vs => exact hn vs hG
 obtain ⟨a, b, h⟩ : ∃ a b, listR x key 2 = [a, b] := by
  match hl : listR x key 2, h2 with
  | [a, b], _ => exact ⟨a, b, rfl⟩
 rw [h]
 rfl
theorem listR_one {x : IV} {key : ByteArray} (hn : ∀ vs, getR x.keys key = some vs → vs.length = 1) : listR x key 1 = [oneR x key] := by
 unfold oneR
 have h2 : (listR x key 1).length = 1 := by
  unfold listR
  cases hG : getR x.keys key with
  | none => rfl
  | some vs => exact hn vs hG
 obtain ⟨a, h⟩ : ∃ a, listR x key 1 = [a] := by
  match hl : listR x key 1, h2 with
  | [a], _ => exact ⟨a, rfl⟩
 rw [h]
 rfl
set_option maxRecDepth 100000 in
set_option maxHeartbeats 1000000 in
theorem vone_any (w : World) (vb : Nat) (x : IV) (B : Option Addr) (d : Nat) (m : Bool) (key : ByteArray) (h : VAt w vb x B d m) (ho : IvOk x) (hn : ∀ vs, getR x.keys key = some vs → vs.length = 1) :
  Calls Tryz.prog 101 #[.pointer (some ⟨vb, 0, none⟩), .string key] w (KeyOut (.int .i64 (oneR x key)) x B d vb (missR x key m) w) := by
 have hL := listR_one hn
 have K := list_any1 w vb x B d m key h ho
 rw [hL] at K
 have HK := hQ0 K
 clear K hL hn h
 go_enter Tryz.func101, Tryz.ntmps101; (try simp only [List.append_eq, List.cons_append, List.nil_append])
 go_wp2_with (go_at_call 102; refine HK.out.mono ?_; rintro e w1 ⟨A, c, rfl, hA, hbt, hV1⟩; (obtain ⟨g, o, rfl, hg, c0⟩ := hA 0 _ rfl); simp only [Nat.add_zero] at c0)
 go_ret
 exact ⟨rfl, hbt, hV1⟩
set_option maxRecDepth 100000 in
set_option maxHeartbeats 1000000 in
theorem vec_any (w : World) (vb : Nat) (x : IV) (B : Option Addr) (d : Nat) (m : Bool) (key : ByteArray) (h : VAt w vb x B d m) (ho : IvOk x) (hn : ∀ vs, getR x.keys key = some vs → vs.length = 2) :
  Calls Tryz.prog 100 #[.pointer (some ⟨vb, 0, none⟩), .string key] w (KeyOut (.agg #[.int .i64 (vecR x key).x, .int .i64 (vecR x key).y]) x B d vb (missR x key m) w) := by
 have hL := listR_two hn
 obtain ⟨a, ha⟩ : ∃ a, a = (vecR x key).x := ⟨_, rfl⟩
 obtain ⟨b, hb⟩ : ∃ b, b = (vecR x key).y := ⟨_, rfl⟩
 rw [← ha, ← hb] at hL ⊢
 have hlt := h.bx.lt
 have hVn := h.below ((Below.refl w.heap.size w).alloc (Nat.le_refl _) (.cells #[.int .i64 0, .int .i64 0] 23))
 have K := list_any2 _ vb x B d m key hVn ho
 rw [hL] at K
 have HK := hQ0 K
 clear K hL hn h ha hb hVn
 go_enter Tryz.func100, Tryz.ntmps100; (try simp only [List.append_eq, List.cons_append, List.nil_append])
 go_wp2_with (go_at_call 102; refine HK.out.mono ?_; rintro e w1 ⟨A, c, rfl, hA, hbt, hV1⟩; (have hR1 : BoxAt w1 w.heap.size [.int .i64 0, .int .i64 0] := (BoxAt.new w [.int .i64 0, .int .i64 0] 23).block hbt.size (hbt.block _ (by simp) (by omega))); (have r0 := hR1.c 0 (.int .i64 0) rfl); (have r1 := hR1.c 1 (.int .i64 0) rfl); (have rf := hR1.fz); (have rl := hR1.lt); (obtain ⟨g, o, hAe, hg, c0⟩ := hA 0 _ rfl); subst hAe; (obtain ⟨g', o', hAe, hg', c1⟩ := hA 1 _ rfl); simp only [Option.some.injEq, Addr.mk.injEq, and_true] at hAe; (obtain ⟨rfl, rfl⟩ := hAe); simp only [Nat.add_zero] at c0)
 have hz_w1 := hbt.size
 simp at hz_w1
 refine wp_region_floatQ w1.heap.size 7 [7] (Nat.le_refl _) (fun _ => True) trivial Cl.tt (by kernel_rfl) (by kernel_rfl) ?_
 refine wpQI_start [0, 1, 2, 3, 4, 5, 6] ?_; (iterate 7 (first | (apply wpQI_step (zA rfl) (by kernel_rfl) (by exact rfl); (focus (intro W' hS; have hcS := hS.cells; go_simp; (iterate 2 (first | done | exact rfl | exact bB _ | go_simp)))); intro K hK; go_simp; (try go_bits); refine hK _ ?_; clear hK K))); refine wpQI_nil ?_
 refine wpQ_done (by kernel_rfl) ?_
 intro w2 hF_w2 hSG
 have hz_w2 := hSG.1.1
 have hb_w2 := hSG.1.2
 clear hSG
 (with_reducible apply cel2 (b := w.heap.size) hb_w2); ((try simp) <;> omega); omega; (iterate 2 (focus (go_simp; try exact rfl))); (intro o; go_simp); intro cc cc fz hl
 (try simp only [List.filterMap_cons, List.filterMap_nil, List.getElem?_cons_succ, List.getElem?_cons_zero])
 have hB2 := hbt.below hb_w2 hbt.size
 have hV2 := hV1.below hb_w2
 go_wp2_with fail
 refine bodyPost_ret (v := .agg #[.int .i64 a, .int .i64 b]) (by simp only [results, Tryz.results100]; go_simp) rfl ⟨?_, ?_⟩
 · rfl
 · refine ⟨?_, ?_⟩
   · exact ((((But.refl vb w).alloc _).trans hB2).set (p := ⟨w.heap.size, 0, none⟩) _ (.inr (Nat.le_refl _))).set (p := ⟨w.heap.size, 1, none⟩) _ (.inr (Nat.le_refl _))
   · obtain ⟨q1, w0, q2, q3, q4⟩ := hV2
     refine ⟨(q1.low (by simp only; omega) _).low (by simp only; omega) _, w0, q2, (q3.setCell (by simp only; omega) _).setCell (by simp only; omega) _, q4⟩
def k_level : ByteArray := ⟨#[108, 101, 118, 101, 108]⟩
def k_rest : ByteArray := ⟨#[114, 101, 115, 116]⟩
def k_grip : ByteArray := ⟨#[103, 114, 105, 112]⟩
def k_coil : ByteArray := ⟨#[99, 111, 105, 108]⟩
def k_switch : ByteArray := ⟨#[115, 119, 105, 116, 99, 104]⟩
def k_kick : ByteArray := ⟨#[107, 105, 99, 107]⟩
def k_min : ByteArray := ⟨#[109, 105, 110]⟩
def k_from : ByteArray := ⟨#[102, 114, 111, 109]⟩
def k_to : ByteArray := ⟨#[116, 111]⟩
def k_center : ByteArray := ⟨#[99, 101, 110, 116, 101, 114]⟩
def k_size : ByteArray := ⟨#[115, 105, 122, 101]⟩
def k_into : ByteArray := ⟨#[105, 110, 116, 111]⟩
def k_half : ByteArray := ⟨#[104, 97, 108, 102]⟩
def k_out : ByteArray := ⟨#[111, 117, 116]⟩
def k_dir : ByteArray := ⟨#[100, 105, 114]⟩
def k_length : ByteArray := ⟨#[108, 101, 110, 103, 116, 104]⟩
def k_range : ByteArray := ⟨#[114, 97, 110, 103, 101]⟩
def k_up : ByteArray := ⟨#[117, 112]⟩
def k_down : ByteArray := ⟨#[100, 111, 119, 110]⟩
def k_max : ByteArray := ⟨#[109, 97, 120]⟩
def k_mirror : ByteArray := ⟨#[109, 105, 114, 114, 111, 114]⟩
def k_limit : ByteArray := ⟨#[108, 105, 109, 105, 116]⟩
def k_radius : ByteArray := ⟨#[114, 97, 100, 105, 117, 115]⟩
def k_balls : ByteArray := ⟨#[98, 97, 108, 108, 115]⟩
def k_gravity : ByteArray := ⟨#[103, 114, 97, 118, 105, 116, 121]⟩
def k_drag : ByteArray := ⟨#[100, 114, 97, 103]⟩
def k_trough : ByteArray := ⟨#[116, 114, 111, 117, 103, 104]⟩
def pairR (x : IV) (key : ByteArray) : Int × Int := match getR x.keys key with
  | some vs => (vs.getD 0 0, vs.getD 1 0)
  | none => (0, 0)
def Has1 (x : IV) (key : ByteArray) : Prop := ∀ vs, getR x.keys key = some vs → vs.length = 1
def Has2 (x : IV) (key : ByteArray) : Prop := ∀ vs, getR x.keys key = some vs → vs.length = 2
theorem Has1.ne {x : IV} {key : ByteArray} (h : Has1 x key) : ∀ vs, getR x.keys key = some vs → vs ≠ [] := fun vs hv e => by have := h vs hv; rw [e] at this; simp at this
set_option maxRecDepth 100000 in
set_option maxHeartbeats 1000000 in
theorem vlevel_any (w : World) (vb : Nat) (x : IV) (B : Option Addr) (d : Nat) (m : Bool) (h : VAt w vb x B d m) (ho : IvOk x) (h1 : Has1 x k_level) :
  Calls Tryz.prog 99 #[.pointer (some ⟨vb, 0, none⟩)] w fun e w' => e = .returned (.int .i64 (orR x k_level 0)) ∧ Below w.heap.size w w' := by
 have HK := hQ0 (or_any w vb x B d m k_level 0 h ho h1.ne)
 clear h h1
 go_enter Tryz.func99, Tryz.ntmps99; (try simp only [List.append_eq, List.cons_append, List.nil_append])
 go_wp2_with (go_at_call 96; refine HK.out.mono ?_; rintro e w1 ⟨rfl, hb1⟩)
 go_ret
 exact ⟨rfl, hb1⟩
set_option maxRecDepth 100000 in
set_option maxHeartbeats 1000000 in
theorem vbounce_any (w : World) (vb : Nat) (x : IV) (B : Option Addr) (d : Nat) (m : Bool) (h : VAt w vb x B d m) (ho : IvOk x) (h1 : Has1 x k_rest) (h2 : Has1 x k_grip) :
  Calls Tryz.prog 94 #[.pointer (some ⟨vb, 0, none⟩)] w fun e w' => e = .returned (.tuple #[.int .i64 (orR x k_rest 8), .int .i64 (orR x k_grip 0)]) ∧ Below w.heap.size w w' := by
 have HK := hQ0 (or_any w vb x B d m k_rest 8 h ho h1.ne)
 have HK2 := hQ0 (fun (W : World) (hb : Below w.heap.size w W) => or_any W vb x B d m k_grip 0 (h.below hb) ho h2.ne)
 clear h h1 h2
 obtain ⟨r1, hr1⟩ : ∃ r, r = orR x k_rest 8 := ⟨_, rfl⟩
 obtain ⟨r2, hr2⟩ : ∃ r, r = orR x k_grip 0 := ⟨_, rfl⟩
 rw [← hr1] at HK
 rw [← hr2] at HK2
 rw [← hr1, ← hr2]
 clear hr1 hr2
 go_enter Tryz.func94, Tryz.ntmps94; (try simp only [List.append_eq, List.cons_append, List.nil_append])
 go_wp2_with (first | (have hq := hb1; go_at_call 96; refine (HK2.out _ hq).mono ?_; rintro e w2 ⟨rfl, hb2⟩) | (go_at_call 96; refine HK.out.mono ?_; rintro e w1 ⟨rfl, hb1⟩))
 refine bodyPost_ret (v := .tuple #[.int .i64 r1, .int .i64 r2]) (by simp only [results, Tryz.results94]; go_simp) rfl ⟨?_, ?_⟩
 · rfl
 · exact hb1.trans (hb2.mono hb1.size)
set_option maxRecDepth 100000 in
set_option maxHeartbeats 1000000 in
theorem vports_any (w : World) (vb : Nat) (x : IV) (B : Option Addr) (d : Nat) (m : Bool) (h : VAt w vb x B d m) (ho : IvOk x) (h1 : Has1 x k_coil) (h2 : Has1 x k_switch) :
  Calls Tryz.prog 95 #[.pointer (some ⟨vb, 0, none⟩)] w fun e w' => e = .returned (.tuple #[.int .i64 (orR x k_coil (-1)), .int .i64 (orR x k_switch (-1))]) ∧ Below w.heap.size w w' := by
 have HK := hQ0 (or_any w vb x B d m k_coil (-1) h ho h1.ne)
 have HK2 := hQ0 (fun (W : World) (hb : Below w.heap.size w W) => or_any W vb x B d m k_switch (-1) (h.below hb) ho h2.ne)
 clear h h1 h2
 obtain ⟨r1, hr1⟩ : ∃ r, r = orR x k_coil (-1) := ⟨_, rfl⟩
 obtain ⟨r2, hr2⟩ : ∃ r, r = orR x k_switch (-1) := ⟨_, rfl⟩
 rw [← hr1] at HK
 rw [← hr2] at HK2
 rw [← hr1, ← hr2]
 clear hr1 hr2
 go_enter Tryz.func95, Tryz.ntmps95; (try simp only [List.append_eq, List.cons_append, List.nil_append])
 go_wp2_with (first | (have hq := hb1; go_at_call 96; refine (HK2.out _ hq).mono ?_; rintro e w2 ⟨rfl, hb2⟩) | (go_at_call 96; refine HK.out.mono ?_; rintro e w1 ⟨rfl, hb1⟩))
 refine bodyPost_ret (v := .tuple #[.int .i64 r1, .int .i64 r2]) (by simp only [results, Tryz.results95]; go_simp) rfl ⟨?_, ?_⟩
 · rfl
 · exact hb1.trans (hb2.mono hb1.size)
set_option maxRecDepth 100000 in
set_option maxHeartbeats 1000000 in
theorem vpair_any (w : World) (vb : Nat) (x : IV) (B : Option Addr) (d : Nat) (m : Bool) (key : ByteArray) (h : VAt w vb x B d m) (ho : IvOk x) (hn : Has2 x key) :
  Calls Tryz.prog 158 #[.pointer (some ⟨vb, 0, none⟩), .string key] w fun e w' => e = .returned (.tuple #[.int .i64 (pairR x key).1, .int .i64 (pairR x key).2]) ∧ Below w.heap.size w w' := by
 have v0 := h.bx.c 0 (.string x.word) rfl
 have v1 := h.bx.c 1 (.string x.name) rfl
 have v2 := h.bx.c 2 (.slice B x.keys.length d) rfl
 have v3 := h.bx.c 3 (.int .i64 x.at_) rfl
 have K := get_any x B d key w h.kat ho.1 ho.2
 unfold vOfX at K
 unfold pairR
 cases hG : getR x.keys key with
 | none =>
  rw [hG] at K
  have HK := hQ0 K
  clear hG K hn
  go_enter Tryz.func158, Tryz.ntmps158; (try simp only [List.append_eq, List.cons_append, List.nil_append])
  go_wp2_with (go_at_call 103; refine HK.out.mono ?_; rintro e w1 ⟨hb1, rfl⟩)
  refine bodyPost_ret (v := .tuple #[.int .i64 0, .int .i64 0]) (by simp only [results, Tryz.results158]; go_simp) rfl ⟨?_, ?_⟩
  · rfl
  · exact hb1
 | some vs =>
  obtain ⟨a, b, rfl⟩ : ∃ a b, vs = [a, b] := by
   match hl : vs, hn vs hG with
   | [a, b], _ => exact ⟨a, b, rfl⟩
  rw [hG] at K
  have HK := hQ0 K
  clear hG K hn
  go_enter Tryz.func158, Tryz.ntmps158; (try simp only [List.append_eq, List.cons_append, List.nil_append])
  go_wp2_with (go_at_call 103; refine HK.out.mono ?_; rintro e w1 ⟨hb1, A, c, rfl, hown⟩; (have hA := OwnI.iat hown); (obtain ⟨g, o, hAe, hg, c0⟩ := hA 0 _ rfl); subst hAe; (obtain ⟨g', o', hAe, hg', c1⟩ := hA 1 _ rfl); simp only [Option.some.injEq, Addr.mk.injEq, and_true] at hAe; (obtain ⟨rfl, rfl⟩ := hAe); simp only [Nat.add_zero] at c0)
  have hz_w1 := hb1.size
  refine wp_region_floatQ w1.heap.size 7 [7] (Nat.le_refl _) (fun _ => True) trivial Cl.tt (by kernel_rfl) (by kernel_rfl) ?_
  refine wpQI_start [0, 1, 2, 3, 4, 5, 6] ?_; (iterate 7 (first | (apply wpQI_step (zA rfl) (by kernel_rfl) (by exact rfl); (focus (intro W' hS; have hcS := hS.cells; go_simp; (iterate 2 (first | done | exact rfl | exact bB _ | go_simp)))); intro K hK; go_simp; (try go_bits); refine hK _ ?_; clear hK K))); refine wpQI_nil ?_
  refine wpQ_done (by kernel_rfl) ?_
  intro w2 hF_w2 hSG
  have hz_w2 := hSG.1.1
  have hb_w2 := hSG.1.2
  clear hSG
  skip
  (try simp only [List.filterMap_cons, List.filterMap_nil, List.getElem?_cons_succ, List.getElem?_cons_zero])
  go_wp2_with fail
  refine bodyPost_ret (v := .tuple #[.int .i64 a, .int .i64 b]) (by simp only [results, Tryz.results158]; go_simp) rfl ⟨?_, ?_⟩
  · rfl
  · exact hb1.trans (hb_w2.mono hb1.size)
def kindWs : List ByteArray := [⟨#[]⟩, ⟨#[119, 97, 108, 108]⟩, ⟨#[103, 97, 116, 101]⟩, ⟨#[116, 97, 114, 103, 101, 116]⟩, ⟨#[115, 108, 105, 110, 103]⟩]
def kindR (s : ByteArray) : Int := Lib.idxOfS kindWs s
set_option maxRecDepth 100000 in
set_option maxHeartbeats 1000000 in
theorem kind_any (s : ByteArray) (w : World) : Calls Tryz.prog 98 #[.string s] w fun e w' => e = .returned (.int .i64 (kindR s)) ∧ Below w.heap.size w w' := by
 have K := fun (W : World) (h : W = w.alloc (.cells #[.string ⟨#[]⟩, .string ⟨#[119, 97, 108, 108]⟩, .string ⟨#[103, 97, 116, 101]⟩, .string ⟨#[116, 97, 114, 103, 101, 116]⟩, .string ⟨#[115, 108, 105, 110, 103]⟩] 9)) => Tryz.slices_Index_string w.heap.size 0 5 5 kindWs s W (by decide) (by omega) (by
  intro j hj
  rw [h, Nat.zero_add, World.cell?_alloc_new]
  match j, hj with
  | 0, _ => rfl
  | 1, _ => rfl
  | 2, _ => rfl
  | 3, _ => rfl
  | 4, _ => rfl
  | j + 5, hj => exact absurd hj (by simp [kindWs]))
 have HK := hQ0 K
 clear K
 go_enter Tryz.func98, Tryz.ntmps98; (try simp only [List.append_eq, List.cons_append, List.nil_append])
 go_wp2_with (go_at_call 159; refine (HK.out _ rfl).mono ?_; rintro e w1 ⟨rfl, rfl⟩)
 go_ret
 exact ⟨rfl, by ((with_reducible (repeat (first | exact bR _ _ | apply bS | apply bA | apply bD | refine bT ?_ (by assumption) ?_ | refine bO (by assumption) ?_ ?_))) <;> (first | omega | (simp <;> omega)))⟩
end Go.Proofs.YtbpcjpiaimdpnaaGreatDoor
namespace Go.Proofs.YtbpcjpiaimdpnaaGreatDoor
open Go
set_option linter.unusedVariables false
theorem keysF_two {e : Nat} {word : ByteArray} : ∀ (f : Nat) (acc : List KV) (l : List WV) {x : List KV} {r : List WV}, (∀ k ∈ acc, k.vals.length ≤ 2) → keysF e word f acc l = .ok x r → ∀ k ∈ x, k.vals.length ≤ 2
 | 0, acc, l, x, r, ha, h => by simp only [keysF, PR.ok.injEq] at h; obtain ⟨rfl, rfl⟩ := h; exact ha
 | f + 1, acc, [], x, r, ha, h => by simp [keysF] at h
 | f + 1, acc, y :: l, x, r, ha, h => by
  simp only [keysF] at h
  split at h
  · simp only [PR.ok.injEq] at h; obtain ⟨rfl, rfl⟩ := h; exact ha
  · split at h
    · cases h
    · split at h
      · cases h
      · split at h
        · cases h
        · cases hn : numsF e (arR word y.text).toNat [] l with
          | err a b => simp only [hn] at h; cases h
          | ok vs l' =>
           simp only [hn] at h
           have h1 := (numsF_len _ _ _ hn).2
           have h2 := (arR_bd word y.text).2
           refine keysF_two f _ l' ?_ h
           intro k hk
           rcases List.mem_append.1 hk with hk | hk
           · exact ha k hk
           · rw [List.mem_singleton] at hk
             rw [hk]
             show vs.length ≤ 2
             simp only [List.length_nil] at h1
             omega
theorem restF_two {e a : Nat} {word name : ByteArray} {l : List WV} {x : IV} {r : List WV} (h : restF e word name a l = .ok x r) : x.word = word ∧ x.name = name ∧ ∀ k ∈ x.keys, k.vals.length ≤ 2 := by
 unfold restF at h
 cases hk : keysF e word (l.length + 1) [] l with
 | err c b => simp only [hk] at h; cases h
 | ok ks l' =>
  simp only [hk, PR.ok.injEq] at h
  obtain ⟨rfl, rfl⟩ := h
  exact ⟨rfl, rfl, keysF_two _ _ _ (by simp) hk⟩
theorem itemF_two {e : Nat} {l : List WV} {x : IV} {r : List WV} (h : itemF e l = .ok x r) : ∀ k ∈ x.keys, k.vals.length ≤ 2 := by
 cases l with
 | nil => cases h
 | cons y l =>
  simp only [itemF] at h
  split at h
  · cases h
  · split at h
    · cases h
    · split at h
      · exact (restF_two h).2.2
      · cases l with
        | nil => cases h
        | cons z l =>
         simp only at h
         split at h
         · cases h
         · exact (restF_two h).2.2
theorem parseF_ok {e : Nat} (P : IV → Prop) : ∀ (f : Nat) (acc : List IV) (l : List WV) (hP : ∀ (l' : List WV) (x : IV) (r : List WV), l'.length ≤ l.length → (∀ w ∈ l', w ∈ l) → itemF e l' = .ok x r → P x) (hr : ∀ (l' : List WV) (x : IV) (r : List WV), itemF e l' = .ok x r → ∀ w ∈ r, w ∈ l'), acc.length ≤ 400 → (∀ x ∈ acc, P x) → (parseF e f acc l).1.length ≤ 400 ∧ ∀ x ∈ (parseF e f acc l).1, P x
 | 0, acc, l, hP, hr, h1, h2 => ⟨h1, h2⟩
 | f + 1, acc, [], hP, hr, h1, h2 => ⟨h1, h2⟩
 | f + 1, acc, y :: l, hP, hr, h1, h2 => by
  simp only [parseF]
  split
  · exact ⟨by simp, by simp⟩
  · cases hi : itemF e (y :: l) with
    | err a b => exact ⟨by simp, by simp⟩
    | ok x r =>
     have hl := (itemF_len hi).1
     have hs := hr _ _ _ hi
     refine parseF_ok P f _ r (fun l' x' r' h3 h4 h5 => hP l' x' r' (by omega) (fun w hw => hs w (h4 w hw)) h5) hr (by simp only [List.length_append, List.length_cons, List.length_nil]; omega) ?_
     intro z hz
     rcases List.mem_append.1 hz with hz | hz
     · exact h2 z hz
     · rw [List.mem_singleton] at hz
       rw [hz]
       exact hP _ _ _ (Nat.le_refl _) (fun w hw => hw) hi
theorem numsF_mem {e : Nat} : ∀ (n : Nat) (acc : List Int) (l : List WV) {x : List Int} {r : List WV}, numsF e n acc l = .ok x r → (∀ w ∈ r, w ∈ l) ∧ ∀ z ∈ x, z ∈ acc ∨ ∃ w ∈ l, w.num = z
 | 0, acc, l, x, r, h => by simp only [numsF, PR.ok.injEq] at h; obtain ⟨rfl, rfl⟩ := h; exact ⟨fun w hw => hw, fun z hz => .inl hz⟩
 | n + 1, acc, [], x, r, h => by simp [numsF] at h
 | n + 1, acc, y :: l, x, r, h => by
  simp only [numsF] at h
  split at h
  · obtain ⟨h1, h2⟩ := numsF_mem n _ l h
    refine ⟨fun w hw => List.mem_cons_of_mem _ (h1 w hw), fun z hz => ?_⟩
    rcases h2 z hz with h | ⟨w, hw, e⟩
    · rcases List.mem_append.1 h with h | h
      · exact .inl h
      · exact .inr ⟨y, List.mem_cons_self, (List.mem_singleton.1 h).symm⟩
    · exact .inr ⟨w, List.mem_cons_of_mem _ hw, e⟩
  · cases h
theorem keysF_mem {e : Nat} {word : ByteArray} {Q : KV → Prop} : ∀ (f : Nat) (acc : List KV) (l : List WV) {x : List KV} {r : List WV}, (∀ k ∈ acc, Q k) → (∀ (y : WV) (vs : List Int), y ∈ l → y.kind = 1 → ¬ arR word y.text < 0 → vs.length = (arR word y.text).toNat → (∀ z ∈ vs, ∃ w ∈ l, w.num = z) → Q ⟨y.text, vs, y.at_⟩) → keysF e word f acc l = .ok x r → (∀ w ∈ r, w ∈ l) ∧ ∀ k ∈ x, Q k
 | 0, acc, l, x, r, ha, hQ, h => by simp only [keysF, PR.ok.injEq] at h; obtain ⟨rfl, rfl⟩ := h; exact ⟨fun w hw => hw, ha⟩
 | f + 1, acc, [], x, r, ha, hQ, h => by simp [keysF] at h
 | f + 1, acc, y :: l, x, r, ha, hQ, h => by
  simp only [keysF] at h
  split at h
  · simp only [PR.ok.injEq] at h; obtain ⟨rfl, rfl⟩ := h; exact ⟨fun w hw => List.mem_cons_of_mem _ hw, ha⟩
  · split at h
    · cases h
    · rename_i hk1
      split at h
      · cases h
      · rename_i har
        split at h
        · cases h
        · cases hn : numsF e (arR word y.text).toNat [] l with
          | err a b => simp only [hn] at h; cases h
          | ok vs l' =>
           simp only [hn] at h
           obtain ⟨m1, m2⟩ := numsF_mem _ _ _ hn
           have hvl := (numsF_len _ _ _ hn).2
           simp only [List.length_nil, Nat.zero_add] at hvl
           have := keysF_mem f _ l' ?_ (fun y' vs' h1 h2 h3 h4 h5 => hQ y' vs' (List.mem_cons_of_mem _ (m1 y' h1)) h2 h3 h4 (fun z hz => by obtain ⟨w, hw, e⟩ := h5 z hz; exact ⟨w, List.mem_cons_of_mem _ (m1 w hw), e⟩)) h
           · exact ⟨fun w hw => List.mem_cons_of_mem _ (m1 w (this.1 w hw)), this.2⟩
           · intro k hk
             rcases List.mem_append.1 hk with hk | hk
             · exact ha k hk
             · rw [List.mem_singleton] at hk
               rw [hk]
               refine hQ y vs List.mem_cons_self (by simpa using hk1) har hvl (fun z hz => ?_)
               rcases m2 z hz with h | ⟨w, hw, e⟩
               · simp at h
               · exact ⟨w, List.mem_cons_of_mem _ hw, e⟩
theorem itemF_mem {e : Nat} {Q : KV → Prop} {l : List WV} {x : IV} {r : List WV} (hQ : ∀ (word : ByteArray) (y : WV) (vs : List Int), y ∈ l → y.kind = 1 → ¬ arR word y.text < 0 → vs.length = (arR word y.text).toNat → (∀ z ∈ vs, ∃ w ∈ l, w.num = z) → Q ⟨y.text, vs, y.at_⟩) (h : itemF e l = .ok x r) : (∀ w ∈ r, w ∈ l) ∧ ∀ k ∈ x.keys, Q k := by
 have rest : ∀ (word name : ByteArray) (a : Nat) (l' : List WV), (∀ w ∈ l', w ∈ l) → restF e word name a l' = .ok x r → (∀ w ∈ r, w ∈ l) ∧ ∀ k ∈ x.keys, Q k := by
  intro word name a l' hs h
  unfold restF at h
  cases hk : keysF e word (l'.length + 1) [] l' with
  | err c b => simp only [hk] at h; cases h
  | ok ks l'' =>
   simp only [hk, PR.ok.injEq] at h
   obtain ⟨rfl, rfl⟩ := h
   obtain ⟨m1, m2⟩ := keysF_mem (Q := Q) _ _ _ (by simp) (fun y vs h1 h2 h3 h4 h5 => hQ word y vs (hs y h1) h2 h3 h4 (fun z hz => by obtain ⟨w, hw, e⟩ := h5 z hz; exact ⟨w, hs w hw, e⟩)) hk
   exact ⟨fun w hw => hs w (m1 w hw), m2⟩
 cases l with
 | nil => cases h
 | cons y l =>
  simp only [itemF] at h
  split at h
  · cases h
  · split at h
    · cases h
    · split at h
      · exact rest _ _ _ _ (fun w hw => List.mem_cons_of_mem _ hw) h
      · cases l with
        | nil => cases h
        | cons z l =>
         simp only at h
         split at h
         · cases h
         · exact rest _ _ _ _ (fun w hw => List.mem_cons_of_mem _ (List.mem_cons_of_mem _ hw)) h
theorem parseR_ok (s : ByteArray) (P : IV → Prop) (hP : ∀ (l : List WV) (x : IV) (r : List WV), l.length ≤ (scanR s).1.length → (∀ w ∈ l, w ∈ (scanR s).1) → itemF s.size l = .ok x r → P x) : (parseR s).1.length ≤ 400 ∧ ∀ x ∈ (parseR s).1, P x := by
 unfold parseR
 split
 · exact ⟨by simp, by simp⟩
 · exact parseF_ok P _ _ _ hP (fun l' x r h => (itemF_mem (Q := fun _ => True) (fun _ _ _ _ _ _ _ _ => trivial) h).1) (by simp) (by simp)
end Go.Proofs.YtbpcjpiaimdpnaaGreatDoor
namespace Go.Proofs.YtbpcjpiaimdpnaaGreatDoor
open Go Go.RowKit
set_option linter.unusedVariables false
structure TbO (w : World) (base tb : Nat) (t : Tb) (a : TbA) : Prop where
  bx : BoxAt w tb (t.cells a)
  tr : w.ownsRow base 3 1 (.slice a.tr t.tr.length a.trc) t.tr.length (t.tr.map (Value.int .i64))
  ws : w.ownsRow base 53 13 (.slice a.ws t.ws.length a.wsc) t.ws.length (t.ws.flatMap Wl.cells)
  ars : w.ownsRow base 76 12 (.slice a.ars t.ars.length a.arsc) t.ars.length (t.ars.flatMap Ac.cells)
  ps : w.ownsRow base 55 11 (.slice a.ps t.ps.length a.psc) t.ps.length (t.ps.flatMap Ps.cells)
  fs : w.ownsRow base 79 15 (.slice a.fs t.fs.length a.fsc) t.fs.length (t.fs.flatMap Fl.cells)
  zs : w.ownsRow base 59 9 (.slice a.zs t.zs.length a.zsc) t.zs.length (t.zs.flatMap Zn.cells)
  ss : w.ownsRow base 81 10 (.slice a.ss t.ss.length a.ssc) t.ss.length (t.ss.flatMap Sc.cells)
  las : w.ownsRow base 57 6 (.slice a.las t.las.length a.lasc) t.las.length (t.las.flatMap La.cells)
  rs : w.ownsRow base 83 8 (.slice a.rs t.rs.length a.rsc) t.rs.length (t.rs.flatMap Ra.cells)
  ds : w.ownsRow base 61 5 (.slice a.ds t.ds.length a.dsc) t.ds.length (t.ds.flatMap Dr.cells)
  lns : w.ownsRow base 85 7 (.slice a.lns t.lns.length a.lnsc) t.lns.length (t.lns.flatMap Ln.cells)
theorem TbO.below {w w1 : World} {base tb B : Nat} {t : Tb} {a : TbA} (h : TbO w base tb t a) (hb : Below B w w1) (hB : w.heap.size ≤ B) : TbO w1 base tb t a := ⟨h.bx.below hb (Nat.lt_of_lt_of_le h.bx.lt hB), own_below h.tr hb hB, own_below h.ws hb hB, own_below h.ars hb hB, own_below h.ps hb hB, own_below h.fs hb hB, own_below h.zs hb hB, own_below h.ss hb hB, own_below h.las hb hB, own_below h.rs hb hB, own_below h.ds hb hB, own_below h.lns hb hB⟩
theorem rows_own {α : Type} {n : Nat} {f : α → List Value} (hn : 0 < n) (hf : ∀ x, (f x).length = n) {w : World} {base : Nat} {e : TypeId} {A : Option Addr} {c : Nat} {l : List α} (h : w.ownsRow base e n (.slice A l.length c) l.length (l.flatMap f)) : RowsAt n f w A l := fun k x hx => by
 have hl : 0 < l.length := Nat.lt_of_le_of_lt (Nat.zero_le _) (List.getElem?_eq_some_iff.1 hx).1
 obtain ⟨g, rfl, hg, _, _, hc⟩ := own_cells h hl
 exact ⟨g, 0, rfl, hg, fun j u hu => by rw [Nat.zero_add]; exact hc _ _ (flat_get f n hf l k j x u hx hu)⟩
theorem rows_int {w : World} {base : Nat} {e : TypeId} {A : Option Addr} {c : Nat} {l : List Int} (h : w.ownsRow base e 1 (.slice A l.length c) l.length (l.map (Value.int .i64))) : RowsAt 1 (fun x : Int => [Value.int .i64 x]) w A l := fun k x hx => by
 have hl : 0 < l.length := Nat.lt_of_le_of_lt (Nat.zero_le _) (List.getElem?_eq_some_iff.1 hx).1
 obtain ⟨g, rfl, hg, _, _, hc⟩ := own_cells h hl
 refine ⟨g, 0, rfl, hg, fun j u hu => ?_⟩
 rw [Nat.zero_add]
 match j, hu with
 | 0, hu =>
  cases hu
  rw [Nat.mul_one, Nat.add_zero]
  exact hc _ _ (by rw [List.getElem?_map, hx]; rfl)
theorem TbO.at {w : World} {base tb : Nat} {t : Tb} {a : TbA} (h : TbO w base tb t a) : TbAt w t a := ⟨rows_int h.tr, rows_own (n := 13) (f := Wl.cells) (by decide) (fun _ => rfl) h.ws, rows_own (n := 12) (f := Ac.cells) (by decide) (fun _ => rfl) h.ars, rows_own (n := 11) (f := Ps.cells) (by decide) (fun _ => rfl) h.ps, rows_own (n := 15) (f := Fl.cells) (by decide) (fun _ => rfl) h.fs, rows_own (n := 9) (f := Zn.cells) (by decide) (fun _ => rfl) h.zs, rows_own (n := 10) (f := Sc.cells) (by decide) (fun _ => rfl) h.ss, rows_own (n := 6) (f := La.cells) (by decide) (fun _ => rfl) h.las, rows_own (n := 8) (f := Ra.cells) (by decide) (fun _ => rfl) h.rs, rows_own (n := 5) (f := Dr.cells) (by decide) (fun _ => rfl) h.ds, rows_own (n := 7) (f := Ln.cells) (by decide) (fun _ => rfl) h.lns⟩
def t_table : ByteArray := ⟨#[116, 97, 98, 108, 101]⟩
def t_wall : ByteArray := ⟨#[119, 97, 108, 108]⟩
def t_gate : ByteArray := ⟨#[103, 97, 116, 101]⟩
def t_target : ByteArray := ⟨#[116, 97, 114, 103, 101, 116]⟩
def t_sling : ByteArray := ⟨#[115, 108, 105, 110, 103]⟩
def t_arc : ByteArray := ⟨#[97, 114, 99]⟩
def t_post : ByteArray := ⟨#[112, 111, 115, 116]⟩
def t_flipper : ByteArray := ⟨#[102, 108, 105, 112, 112, 101, 114]⟩
def t_zone : ByteArray := ⟨#[122, 111, 110, 101]⟩
def t_saucer : ByteArray := ⟨#[115, 97, 117, 99, 101, 114]⟩
def t_lane : ByteArray := ⟨#[108, 97, 110, 101]⟩
def t_ramp : ByteArray := ⟨#[114, 97, 109, 112]⟩
def t_drain : ByteArray := ⟨#[100, 114, 97, 105, 110]⟩
def t_launcher : ByteArray := ⟨#[108, 97, 117, 110, 99, 104, 101, 114]⟩
def mkWl (x : IV) : Wl := ⟨x.name, kindR x.word, orR x k_level 0, (vecR x k_from).x, (vecR x k_from).y, (vecR x k_to).x, (vecR x k_to).y, orR x k_rest 8, orR x k_grip 0, orR x k_kick 0, orR x k_min 0, orR x k_coil (-1), orR x k_switch (-1)⟩
def mkAc (x : IV) : Ac := ⟨x.name, orR x k_level 0, (vecR x k_center).x, (vecR x k_center).y, (vecR x k_from).x, (vecR x k_from).y, (vecR x k_to).x, (vecR x k_to).y, orR x k_rest 8, orR x k_grip 0, orR x k_min 0, orR x k_switch (-1)⟩
def mkPs (x : IV) : Ps := ⟨x.name, orR x k_level 0, (vecR x k_center).x, (vecR x k_center).y, oneR x k_size, orR x k_rest 8, orR x k_grip 0, orR x k_kick 0, orR x k_min 0, orR x k_coil (-1), orR x k_switch (-1)⟩
def mkFl (x : IV) : Fl := ⟨x.name, orR x k_level 0, (vecR x k_center).x, (vecR x k_center).y, oneR x k_length, (getR x.keys k_mirror).isSome, (vecR x k_range).x, (vecR x k_range).y, orR x k_up 4, orR x k_down 2, orR x k_max 16, orR x k_rest 8, orR x k_grip 0, orR x k_coil (-1), orR x k_switch (-1)⟩
def mkZn (x : IV) : Zn := ⟨x.name, orR x k_level 0, (vecR x k_from).x, (vecR x k_from).y, (vecR x k_to).x, (vecR x k_to).y, (vecR x k_half).x, (vecR x k_half).y, orR x k_coil (-1)⟩
def mkSc (x : IV) : Sc := ⟨x.name, orR x k_level 0, (vecR x k_center).x, (vecR x k_center).y, oneR x k_size, orR x k_limit 1048576, (vecR x k_out).x, (vecR x k_out).y, orR x k_coil (-1), orR x k_switch (-1)⟩
def mkLa (x : IV) : La := ⟨x.name, orR x k_level 0, (vecR x k_center).x, (vecR x k_center).y, oneR x k_size, orR x k_switch (-1)⟩
def mkRa (x : IV) : Ra := ⟨x.name, orR x k_level 0, oneR x k_into, (vecR x k_center).x, (vecR x k_center).y, oneR x k_size, (vecR x k_dir).x, (vecR x k_dir).y⟩
def mkDr (x : IV) : Dr := ⟨x.name, orR x k_level 0, (vecR x k_center).x, (vecR x k_center).y, oneR x k_size⟩
def mkLn (x : IV) : Ln := ⟨x.name, orR x k_level 0, (vecR x k_center).x, (vecR x k_center).y, (vecR x k_out).x, (vecR x k_out).y, orR x k_coil (-1)⟩
def troughF : Nat → Int → Int → List Int
  | 0, _, _ => []
  | n + 1, a, i => (if a = -1 then -1 else a + i) :: troughF n a (i + 1)
def troughR (x : IV) (bal : Int) : List Int := match getR x.keys k_trough with
  | some vs => troughF (min bal.toNat 7) (vs.headD 0) 0
  | none => []
def headR (t : Tb) (x : IV) : Tb := { t with rad := oneR x k_radius, bal := orR x k_balls 1, rst := orR x k_rest 8, gx := (pairR x k_gravity).1, gy := (pairR x k_gravity).2, drg := (pairR x k_drag).1, shf := (pairR x k_drag).2, tr := t.tr ++ troughR x (orR x k_balls 1) }
def putR (t : Tb) (x : IV) : Tb :=
  if x.word = t_table then headR t x
  else if x.word = t_wall ∨ x.word = t_gate ∨ x.word = t_target ∨ x.word = t_sling then { t with ws := t.ws ++ [mkWl x] }
  else if x.word = t_arc then { t with ars := t.ars ++ [mkAc x] }
  else if x.word = t_post then { t with ps := t.ps ++ [mkPs x] }
  else if x.word = t_flipper then { t with fs := t.fs ++ [mkFl x] }
  else if x.word = t_zone then { t with zs := t.zs ++ [mkZn x] }
  else if x.word = t_saucer then { t with ss := t.ss ++ [mkSc x] }
  else if x.word = t_lane then { t with las := t.las ++ [mkLa x] }
  else if x.word = t_ramp then { t with rs := t.rs ++ [mkRa x] }
  else if x.word = t_drain then { t with ds := t.ds ++ [mkDr x] }
  else if x.word = t_launcher then { t with lns := t.lns ++ [mkLn x] }
  else t
def reqR (w : ByteArray) : List ByteArray :=
  if w = t_table then [k_radius]
  else if w = t_wall ∨ w = t_gate ∨ w = t_target ∨ w = t_sling then [k_from, k_to]
  else if w = t_arc then [k_center, k_from, k_to]
  else if w = t_post then [k_center, k_size]
  else if w = t_flipper then [k_range, k_center, k_length]
  else if w = t_zone then [k_from, k_to, k_half]
  else if w = t_saucer then [k_center, k_size, k_out]
  else if w = t_lane then [k_center, k_size]
  else if w = t_ramp then [k_into, k_center, k_size, k_dir]
  else if w = t_drain then [k_center, k_size]
  else if w = t_launcher then [k_center, k_out]
  else []
def missAll (x : IV) : Bool := (reqR x.word).any fun k => (getR x.keys k).isNone
def addAll : List IV → Tb → Bool → Sum (Int × Int) (Tb × Bool)
  | [], t, had => .inr (t, had)
  | x :: l, t, had =>
    if x.word = t_table ∧ had = true then .inl (7, (x.at_ : Int))
    else if missAll x = true then .inl (8, (x.at_ : Int))
    else addAll l (putR t x) (had || decide (x.word = t_table))
def tb0 : Tb := ⟨0, 0, 0, 0, 0, 0, 0, [], [], [], [], [], [], [], [], [], [], []⟩
def compileR (s : ByteArray) : Tb × Int × Int :=
  if (parseR s).2.1 ≠ 0 then (tb0, (parseR s).2.1, ((parseR s).2.2 : Int))
  else match addAll (parseR s).1 tb0 false with
    | .inl (e, at_) => (tb0, e, at_)
    | .inr (t, had) => if had = false then (tb0, 8, (s.size : Int)) else if checkR t ≠ 0 then (tb0, checkR t, 0) else (t, 0, 0)
theorem upon_append_one {w : World} {o : Oper} {a : Act} {N : Act → World → Prop} {Q : Exit → Act → World → Prop} (s x : Operand) (t e : TypeId) (z : Value) (size bytes : Nat)
  (ho : o.op = .call { callee := .builtin .append, args := #[s, x], argTypes := #[t, t] })
  (ht : Tryz.prog.underlying t = some (.slice e)) (hinfo : (Tryz.prog.info? e).map (fun i => (i.zero, i.size, i.bytes)) = some (some z, size, bytes)) (hzs : z.cells.size = size) (hsz : 0 < size) (hby : bytes ≤ 1000)
  (base : Nat) (v : Value) (n : Nat) (xs cs : List Value) (hs : a.eval s = v) (hown : w.ownsRow base e size v n xs)
  (g c : Nat) (hx : a.eval x = .slice (some ⟨g, 0, none⟩) 1 c) (hl : cs.length = size) (hcell : ∀ j u, cs[j]? = some u → w.cell? ⟨g, j, none⟩ = some u) (h1 : ∀ u ∈ cs, u.oneCell' = true) (h63 : n ≤ 1000000) (hbase : base ≤ w.heap.size)
  (h : ∀ v' w', w'.ownsRow base e size v' (n + 1) (xs ++ cs) → w.grownBy w' v.ownBlock → (v'.ownBlock = v.ownBlock ∨ v'.ownBlock = some w.heap.size) → N (a.put o.dst v') w') : Oper.upon Tryz.prog o a N Q ((execOp a.eval o).run Tryz.prog w) := by
 obtain ⟨i, hi, hz, hsi, hb⟩ : ∃ i, Tryz.prog.info? e = some i ∧ i.zero = some z ∧ i.size = size ∧ i.bytes = bytes := by
  cases hi : Tryz.prog.info? e with
  | none => rw [hi] at hinfo; cases hinfo
  | some i =>
   rw [hi] at hinfo
   simp only [Option.map_some, Option.some.injEq, Prod.mk.injEq] at hinfo
   exact ⟨i, rfl, hinfo.1, hinfo.2.1, hinfo.2.2⟩
 have hbytes : (n + 1) * bytes ≤ 140737488355328 := by
  have := Nat.mul_le_mul (show n + 1 ≤ 1000001 by omega) hby
  omega
 obtain ⟨v', w', hrun, h2, h3, _, h5⟩ := run_append_own_at (P := Tryz.prog) w base t o.type e i _ size bytes ht hi hz hsi hb hzs hsz v n xs hown ⟨g, 0, none⟩ 1 c cs (by rw [hl, Nat.one_mul]) (fun j u hu => by
   rw [show (⟨g, 0, none⟩ : Addr).add j = ⟨g, j, none⟩ by unfold Addr.add; split <;> simp_all]
   exact hcell j u hu) h1 (by unfold maxLen; omega) hbytes hbase
 unfold execOp
 simp only [ho, resolve, invoke, builtin, Sem.run_bind, Sem.run_pure, Result.andThen_ok, List.map_toArray, List.map_cons, List.map_nil, hs, hx, hrun]
 exact h v' w' h2 h3 h5
theorem below_grown {tb : Nat} {W W' : World} {row : Option Nat} (g : W.grownBy W' row) (hr : ∀ k, row = some k → tb ≤ k) (ht : tb ≤ W.heap.size) : Below tb W W' :=
 ⟨g.os, g.tape, g.output, g.size, fun b hb => g.block b (by omega) (fun e => by have := hr b e.symm; omega)⟩
structure BelQ (tb q : Nat) (w w' : World) : Prop where
  b : Below tb w w'
  k : w'.heap[q]? = w.heap[q]?
theorem BelQ.of {tb q B : Nat} {w w' : World} (h : Below B w w') (ht : tb ≤ B) (hq : q < B) : BelQ tb q w w' := ⟨h.mono ht, h.block q hq⟩
theorem BelQ.call {tb q B : Nat} {w w' w2 : World} (h : BelQ tb q w w') (g : Below B w' w2) (ht : tb ≤ B) (hq : q < B) : BelQ tb q w w2 := ⟨h.b.trans (g.mono ht), (g.block q hq).trans h.k⟩
theorem BelQ.trans {tb q : Nat} {w w' w2 : World} (h : BelQ tb q w w') (g : BelQ tb q w' w2) : BelQ tb q w w2 := ⟨h.b.trans g.b, g.k.trans h.k⟩
theorem BelQ.drew {tb q : Nat} {w w' : World} (h : BelQ tb q w w') : BelQ tb q w w'.drew := ⟨h.b.drew, h.k⟩
theorem BelQ.alloc {tb q : Nat} {w w' : World} (h : BelQ tb q w w') (ht : tb ≤ w'.heap.size) (hq : q < w'.heap.size) (o : Obj) : BelQ tb q w (w'.alloc o) := ⟨h.b.alloc ht o, (heap_alloc_old w' o hq).trans h.k⟩
theorem BelQ.set {tb q : Nat} {w w' : World} {p : Addr} {u : Value} (h : BelQ tb q w w') (ht : tb ≤ p.block) (hq : p.block ≠ q) : BelQ tb q w (w'.setCell p u) := ⟨h.b.setCell ht u, (Below.heap_setCell _ _ _ _ (fun e => hq e.symm)).trans h.k⟩
theorem BelQ.grown {tb q : Nat} {w w' w2 : World} {row : Option Nat} (h : BelQ tb q w w') (g : w'.grownBy w2 row) (hr : ∀ k, row = some k → tb ≤ k) (ht : tb ≤ w'.heap.size) (hq : q < w'.heap.size) (hn : ∀ k, row = some k → q ≠ k) : BelQ tb q w w2 := ⟨h.b.trans (below_grown g hr ht), (g.block q hq (fun e => hn q e.symm rfl)).trans h.k⟩
def AddOut (T : Tb) (ok : Bool) (base tb q : Nat) (w : World) (e : Ending) (w' : World) : Prop := e = .returned (.bool ok) ∧ BelQ tb q w w' ∧ ∃ a', TbO w' base tb T a'
theorem boxAt_grown {W W' : World} {b : Nat} {cs : List Value} {row : Option Nat} (h : BoxAt W b cs) (g : W.grownBy W' row) (hr : ∀ k, row = some k → b ≠ k) : BoxAt W' b cs :=
 h.block g.size (g.block b h.lt (fun e => hr b e.symm rfl))
theorem TbO.put_ws {W W' : World} {base tb : Nat} {t : Tb} {a : TbA} {v' : Value} (h : TbO W base tb t a) (hlt : tb < base) (y : Wl) (hown : W'.ownsRow base 53 13 v' (t.ws.length + 1) (t.ws.flatMap Wl.cells ++ y.cells)) (hg : W.grownBy W' (Value.slice a.ws t.ws.length a.wsc).ownBlock) :
  ∃ A' c', v' = .slice A' (t.ws.length + 1) c' ∧ TbO (W'.setCell ⟨tb, 8, none⟩ v') base tb { t with ws := t.ws ++ [y] } { a with ws := A', wsc := c' } := by
 obtain ⟨A', c', rfl⟩ := own_sl hown
 refine ⟨A', c', rfl, ?_⟩
 have hr : ∀ k, (Value.slice a.ws t.ws.length a.wsc).ownBlock = some k → base ≤ k := fun k hk => (World.ownsRow.lt h.ws k hk).1
 have hbx := (boxAt_grown h.bx hg (fun k hk e => by have := hr k hk; omega)).set (.slice A' (t.ws.length + 1) c') (j := 8) rfl
 refine ⟨?_, ?_, ?_, ?_, ?_, ?_, ?_, ?_, ?_, ?_, ?_, ?_⟩
 · have e : ({ t with ws := t.ws ++ [y] } : Tb).cells { a with ws := A', wsc := c' } = (t.cells a).set 8 (.slice A' (t.ws.length + 1) c') := by simp [Tb.cells]
   rw [e]
   exact hbx
 · exact ownsRow_setCell_below (own_kept h.tr h.ws (by decide) hg) (by simpa using hlt) _
 · have e1 : (t.ws ++ [y]).length = t.ws.length + 1 := by simp
   have e2 : (t.ws ++ [y]).flatMap Wl.cells = t.ws.flatMap Wl.cells ++ y.cells := by simp
   simp only [e1, e2]
   exact ownsRow_setCell_below hown (by simpa using hlt) _
 · exact ownsRow_setCell_below (own_kept h.ars h.ws (by decide) hg) (by simpa using hlt) _
 · exact ownsRow_setCell_below (own_kept h.ps h.ws (by decide) hg) (by simpa using hlt) _
 · exact ownsRow_setCell_below (own_kept h.fs h.ws (by decide) hg) (by simpa using hlt) _
 · exact ownsRow_setCell_below (own_kept h.zs h.ws (by decide) hg) (by simpa using hlt) _
 · exact ownsRow_setCell_below (own_kept h.ss h.ws (by decide) hg) (by simpa using hlt) _
 · exact ownsRow_setCell_below (own_kept h.las h.ws (by decide) hg) (by simpa using hlt) _
 · exact ownsRow_setCell_below (own_kept h.rs h.ws (by decide) hg) (by simpa using hlt) _
 · exact ownsRow_setCell_below (own_kept h.ds h.ws (by decide) hg) (by simpa using hlt) _
 · exact ownsRow_setCell_below (own_kept h.lns h.ws (by decide) hg) (by simpa using hlt) _
theorem TbO.put_ps {W W' : World} {base tb : Nat} {t : Tb} {a : TbA} {v' : Value} (h : TbO W base tb t a) (hlt : tb < base) (y : Ps) (hown : W'.ownsRow base 55 11 v' (t.ps.length + 1) (t.ps.flatMap Ps.cells ++ y.cells)) (hg : W.grownBy W' (Value.slice a.ps t.ps.length a.psc).ownBlock) :
  ∃ A' c', v' = .slice A' (t.ps.length + 1) c' ∧ TbO (W'.setCell ⟨tb, 10, none⟩ v') base tb { t with ps := t.ps ++ [y] } { a with ps := A', psc := c' } := by
 obtain ⟨A', c', rfl⟩ := own_sl hown
 refine ⟨A', c', rfl, ?_⟩
 have hr : ∀ k, (Value.slice a.ps t.ps.length a.psc).ownBlock = some k → base ≤ k := fun k hk => (World.ownsRow.lt h.ps k hk).1
 have hbx := (boxAt_grown h.bx hg (fun k hk e => by have := hr k hk; omega)).set (.slice A' (t.ps.length + 1) c') (j := 10) rfl
 refine ⟨?_, ?_, ?_, ?_, ?_, ?_, ?_, ?_, ?_, ?_, ?_, ?_⟩
 · have e : ({ t with ps := t.ps ++ [y] } : Tb).cells { a with ps := A', psc := c' } = (t.cells a).set 10 (.slice A' (t.ps.length + 1) c') := by simp [Tb.cells]
   rw [e]
   exact hbx
 · exact ownsRow_setCell_below (own_kept h.tr h.ps (by decide) hg) (by simpa using hlt) _
 · exact ownsRow_setCell_below (own_kept h.ws h.ps (by decide) hg) (by simpa using hlt) _
 · exact ownsRow_setCell_below (own_kept h.ars h.ps (by decide) hg) (by simpa using hlt) _
 · have e1 : (t.ps ++ [y]).length = t.ps.length + 1 := by simp
   have e2 : (t.ps ++ [y]).flatMap Ps.cells = t.ps.flatMap Ps.cells ++ y.cells := by simp
   simp only [e1, e2]
   exact ownsRow_setCell_below hown (by simpa using hlt) _
 · exact ownsRow_setCell_below (own_kept h.fs h.ps (by decide) hg) (by simpa using hlt) _
 · exact ownsRow_setCell_below (own_kept h.zs h.ps (by decide) hg) (by simpa using hlt) _
 · exact ownsRow_setCell_below (own_kept h.ss h.ps (by decide) hg) (by simpa using hlt) _
 · exact ownsRow_setCell_below (own_kept h.las h.ps (by decide) hg) (by simpa using hlt) _
 · exact ownsRow_setCell_below (own_kept h.rs h.ps (by decide) hg) (by simpa using hlt) _
 · exact ownsRow_setCell_below (own_kept h.ds h.ps (by decide) hg) (by simpa using hlt) _
 · exact ownsRow_setCell_below (own_kept h.lns h.ps (by decide) hg) (by simpa using hlt) _
theorem TbO.put_zs {W W' : World} {base tb : Nat} {t : Tb} {a : TbA} {v' : Value} (h : TbO W base tb t a) (hlt : tb < base) (y : Zn) (hown : W'.ownsRow base 59 9 v' (t.zs.length + 1) (t.zs.flatMap Zn.cells ++ y.cells)) (hg : W.grownBy W' (Value.slice a.zs t.zs.length a.zsc).ownBlock) :
  ∃ A' c', v' = .slice A' (t.zs.length + 1) c' ∧ TbO (W'.setCell ⟨tb, 12, none⟩ v') base tb { t with zs := t.zs ++ [y] } { a with zs := A', zsc := c' } := by
 obtain ⟨A', c', rfl⟩ := own_sl hown
 refine ⟨A', c', rfl, ?_⟩
 have hr : ∀ k, (Value.slice a.zs t.zs.length a.zsc).ownBlock = some k → base ≤ k := fun k hk => (World.ownsRow.lt h.zs k hk).1
 have hbx := (boxAt_grown h.bx hg (fun k hk e => by have := hr k hk; omega)).set (.slice A' (t.zs.length + 1) c') (j := 12) rfl
 refine ⟨?_, ?_, ?_, ?_, ?_, ?_, ?_, ?_, ?_, ?_, ?_, ?_⟩
 · have e : ({ t with zs := t.zs ++ [y] } : Tb).cells { a with zs := A', zsc := c' } = (t.cells a).set 12 (.slice A' (t.zs.length + 1) c') := by simp [Tb.cells]
   rw [e]
   exact hbx
 · exact ownsRow_setCell_below (own_kept h.tr h.zs (by decide) hg) (by simpa using hlt) _
 · exact ownsRow_setCell_below (own_kept h.ws h.zs (by decide) hg) (by simpa using hlt) _
 · exact ownsRow_setCell_below (own_kept h.ars h.zs (by decide) hg) (by simpa using hlt) _
 · exact ownsRow_setCell_below (own_kept h.ps h.zs (by decide) hg) (by simpa using hlt) _
 · exact ownsRow_setCell_below (own_kept h.fs h.zs (by decide) hg) (by simpa using hlt) _
 · have e1 : (t.zs ++ [y]).length = t.zs.length + 1 := by simp
   have e2 : (t.zs ++ [y]).flatMap Zn.cells = t.zs.flatMap Zn.cells ++ y.cells := by simp
   simp only [e1, e2]
   exact ownsRow_setCell_below hown (by simpa using hlt) _
 · exact ownsRow_setCell_below (own_kept h.ss h.zs (by decide) hg) (by simpa using hlt) _
 · exact ownsRow_setCell_below (own_kept h.las h.zs (by decide) hg) (by simpa using hlt) _
 · exact ownsRow_setCell_below (own_kept h.rs h.zs (by decide) hg) (by simpa using hlt) _
 · exact ownsRow_setCell_below (own_kept h.ds h.zs (by decide) hg) (by simpa using hlt) _
 · exact ownsRow_setCell_below (own_kept h.lns h.zs (by decide) hg) (by simpa using hlt) _
theorem TbO.put_las {W W' : World} {base tb : Nat} {t : Tb} {a : TbA} {v' : Value} (h : TbO W base tb t a) (hlt : tb < base) (y : La) (hown : W'.ownsRow base 57 6 v' (t.las.length + 1) (t.las.flatMap La.cells ++ y.cells)) (hg : W.grownBy W' (Value.slice a.las t.las.length a.lasc).ownBlock) :
  ∃ A' c', v' = .slice A' (t.las.length + 1) c' ∧ TbO (W'.setCell ⟨tb, 14, none⟩ v') base tb { t with las := t.las ++ [y] } { a with las := A', lasc := c' } := by
 obtain ⟨A', c', rfl⟩ := own_sl hown
 refine ⟨A', c', rfl, ?_⟩
 have hr : ∀ k, (Value.slice a.las t.las.length a.lasc).ownBlock = some k → base ≤ k := fun k hk => (World.ownsRow.lt h.las k hk).1
 have hbx := (boxAt_grown h.bx hg (fun k hk e => by have := hr k hk; omega)).set (.slice A' (t.las.length + 1) c') (j := 14) rfl
 refine ⟨?_, ?_, ?_, ?_, ?_, ?_, ?_, ?_, ?_, ?_, ?_, ?_⟩
 · have e : ({ t with las := t.las ++ [y] } : Tb).cells { a with las := A', lasc := c' } = (t.cells a).set 14 (.slice A' (t.las.length + 1) c') := by simp [Tb.cells]
   rw [e]
   exact hbx
 · exact ownsRow_setCell_below (own_kept h.tr h.las (by decide) hg) (by simpa using hlt) _
 · exact ownsRow_setCell_below (own_kept h.ws h.las (by decide) hg) (by simpa using hlt) _
 · exact ownsRow_setCell_below (own_kept h.ars h.las (by decide) hg) (by simpa using hlt) _
 · exact ownsRow_setCell_below (own_kept h.ps h.las (by decide) hg) (by simpa using hlt) _
 · exact ownsRow_setCell_below (own_kept h.fs h.las (by decide) hg) (by simpa using hlt) _
 · exact ownsRow_setCell_below (own_kept h.zs h.las (by decide) hg) (by simpa using hlt) _
 · exact ownsRow_setCell_below (own_kept h.ss h.las (by decide) hg) (by simpa using hlt) _
 · have e1 : (t.las ++ [y]).length = t.las.length + 1 := by simp
   have e2 : (t.las ++ [y]).flatMap La.cells = t.las.flatMap La.cells ++ y.cells := by simp
   simp only [e1, e2]
   exact ownsRow_setCell_below hown (by simpa using hlt) _
 · exact ownsRow_setCell_below (own_kept h.rs h.las (by decide) hg) (by simpa using hlt) _
 · exact ownsRow_setCell_below (own_kept h.ds h.las (by decide) hg) (by simpa using hlt) _
 · exact ownsRow_setCell_below (own_kept h.lns h.las (by decide) hg) (by simpa using hlt) _
theorem TbO.put_ds {W W' : World} {base tb : Nat} {t : Tb} {a : TbA} {v' : Value} (h : TbO W base tb t a) (hlt : tb < base) (y : Dr) (hown : W'.ownsRow base 61 5 v' (t.ds.length + 1) (t.ds.flatMap Dr.cells ++ y.cells)) (hg : W.grownBy W' (Value.slice a.ds t.ds.length a.dsc).ownBlock) :
  ∃ A' c', v' = .slice A' (t.ds.length + 1) c' ∧ TbO (W'.setCell ⟨tb, 16, none⟩ v') base tb { t with ds := t.ds ++ [y] } { a with ds := A', dsc := c' } := by
 obtain ⟨A', c', rfl⟩ := own_sl hown
 refine ⟨A', c', rfl, ?_⟩
 have hr : ∀ k, (Value.slice a.ds t.ds.length a.dsc).ownBlock = some k → base ≤ k := fun k hk => (World.ownsRow.lt h.ds k hk).1
 have hbx := (boxAt_grown h.bx hg (fun k hk e => by have := hr k hk; omega)).set (.slice A' (t.ds.length + 1) c') (j := 16) rfl
 refine ⟨?_, ?_, ?_, ?_, ?_, ?_, ?_, ?_, ?_, ?_, ?_, ?_⟩
 · have e : ({ t with ds := t.ds ++ [y] } : Tb).cells { a with ds := A', dsc := c' } = (t.cells a).set 16 (.slice A' (t.ds.length + 1) c') := by simp [Tb.cells]
   rw [e]
   exact hbx
 · exact ownsRow_setCell_below (own_kept h.tr h.ds (by decide) hg) (by simpa using hlt) _
 · exact ownsRow_setCell_below (own_kept h.ws h.ds (by decide) hg) (by simpa using hlt) _
 · exact ownsRow_setCell_below (own_kept h.ars h.ds (by decide) hg) (by simpa using hlt) _
 · exact ownsRow_setCell_below (own_kept h.ps h.ds (by decide) hg) (by simpa using hlt) _
 · exact ownsRow_setCell_below (own_kept h.fs h.ds (by decide) hg) (by simpa using hlt) _
 · exact ownsRow_setCell_below (own_kept h.zs h.ds (by decide) hg) (by simpa using hlt) _
 · exact ownsRow_setCell_below (own_kept h.ss h.ds (by decide) hg) (by simpa using hlt) _
 · exact ownsRow_setCell_below (own_kept h.las h.ds (by decide) hg) (by simpa using hlt) _
 · exact ownsRow_setCell_below (own_kept h.rs h.ds (by decide) hg) (by simpa using hlt) _
 · have e1 : (t.ds ++ [y]).length = t.ds.length + 1 := by simp
   have e2 : (t.ds ++ [y]).flatMap Dr.cells = t.ds.flatMap Dr.cells ++ y.cells := by simp
   simp only [e1, e2]
   exact ownsRow_setCell_below hown (by simpa using hlt) _
 · exact ownsRow_setCell_below (own_kept h.lns h.ds (by decide) hg) (by simpa using hlt) _
def ArK (word : ByteArray) (k : KV) : Prop := 0 ≤ arR word k.key ∧ (k.vals.length : Int) = arR word k.key
def ArOk (x : IV) : Prop := isWord x.word = true ∧ ∀ k ∈ x.keys, ArK x.word k
theorem restF_ar {e a : Nat} {word name : ByteArray} {l : List WV} {x : IV} {r : List WV} (hw : isWord word = true) (h : restF e word name a l = .ok x r) : ArOk x := by
 unfold restF at h
 cases hk : keysF e word (l.length + 1) [] l with
 | err c b => simp only [hk] at h; cases h
 | ok ks l' =>
  simp only [hk, PR.ok.injEq] at h
  obtain ⟨rfl, rfl⟩ := h
  refine ⟨hw, ?_⟩
  exact (keysF_mem (Q := ArK word) _ _ _ (by simp) (fun y vs h1 h2 h3 h4 h5 => ⟨by show 0 ≤ arR word y.text; omega, by show (vs.length : Int) = arR word y.text; omega⟩) hk).2
theorem itemF_ar {e : Nat} {l : List WV} {x : IV} {r : List WV} (h : itemF e l = .ok x r) : ArOk x := by
 cases l with
 | nil => cases h
 | cons y l =>
  simp only [itemF] at h
  split at h
  · cases h
  · split at h
    · cases h
    · rename_i hw
      have hw : isWord y.text = true := by simpa using hw
      split at h
      · exact restF_ar hw h
      · cases l with
        | nil => cases h
        | cons z l =>
         simp only at h
         split at h
         · cases h
         · exact restF_ar hw h
theorem has_of {x : IV} (h : ArOk x) {key : ByteArray} {n : Nat} (hk : arR x.word key = n ∨ arR x.word key < 0) : ∀ vs, getR x.keys key = some vs → vs.length = n := by
 intro vs hv
 unfold getR at hv
 cases hf : x.keys.find? (fun p => decide (p.key = key)) with
 | none => rw [hf] at hv; cases hv
 | some p =>
  rw [hf] at hv
  simp only [Option.map_some, Option.some.injEq] at hv
  subst hv
  have h1 := h.2 p (List.mem_of_find?_eq_some hf)
  have h2 : p.key = key := by have := List.find?_some hf; simpa using this
  unfold ArK at h1
  rw [h2] at h1
  rcases hk with hk | hk <;> omega
def arAll (w : ByteArray) (n : Nat) (l : List ByteArray) : Bool := l.all fun k => decide (arR w k = n) || decide (arR w k < 0)
theorem has_all {x : IV} (h : ArOk x) {n : Nat} {l : List ByteArray} (hl : arAll x.word n l = true) : ∀ k ∈ l, ∀ vs, getR x.keys k = some vs → vs.length = n := fun k hk => by
 simp only [arAll, List.all_eq_true, Bool.or_eq_true, decide_eq_true_eq] at hl
 exact has_of h (hl k hk)
def keys1 : List ByteArray := [k_level, k_rest, k_grip, k_coil, k_switch, k_min, k_kick, k_size, k_into, k_limit, k_length, k_up, k_down, k_max, k_radius, k_balls, k_trough]
def keys2 : List ByteArray := [k_center, k_from, k_to, k_half, k_out, k_dir, k_range, k_gravity, k_drag]
theorem ar_words : [t_table, t_wall, t_gate, t_target, t_sling, t_arc, t_post, t_flipper, t_zone, t_saucer, t_lane, t_ramp, t_drain, t_launcher].all (fun w => arAll w 1 keys1 && arAll w 2 keys2) = true := by kernel_rfl
theorem word_case14 {w : ByteArray} (h : isWord w = true) : w ∈ [t_table, t_wall, t_gate, t_target, t_sling, t_arc, t_post, t_flipper, t_zone, t_saucer, t_lane, t_ramp, t_drain, t_launcher] := by
 have key : keyTab.all (fun p => [t_table, t_wall, t_gate, t_target, t_sling, t_arc, t_post, t_flipper, t_zone, t_saucer, t_lane, t_ramp, t_drain, t_launcher].any fun q => decide (q = p.1)) = true := by kernel_rfl
 unfold isWord at h
 rw [List.any_eq_true] at h
 obtain ⟨p, hp, he⟩ := h
 rw [List.all_eq_true] at key
 have h1 := key p hp
 rw [List.any_eq_true] at h1
 obtain ⟨q, hq, e⟩ := h1
 rw [← of_decide_eq_true he, ← of_decide_eq_true e]
 exact hq
theorem ar_has {x : IV} (h : ArOk x) : (∀ k ∈ keys1, Has1 x k) ∧ ∀ k ∈ keys2, Has2 x k := by
 have h1 := List.all_eq_true.1 ar_words x.word (word_case14 h.1)
 rw [Bool.and_eq_true] at h1
 exact ⟨has_all h h1.1, has_all h h1.2⟩
attribute [local go_sem ↓] evalL getL64 setL64
attribute [local go_sem ↓] getL8 setL8
attribute [local go_sem ↓] getL1 getL0
theorem TbO.set0 {W : World} {base tb : Nat} {t t' : Tb} {a : TbA} {j : Nat} {u old : Value} (h : TbO W base tb t a) (hlt : tb < base) (hj : (t.cells a)[j]? = some old) (hc : t'.cells a = (t.cells a).set j u)
  (hr : t'.tr = t.tr ∧ t'.ws = t.ws ∧ t'.ars = t.ars ∧ t'.ps = t.ps ∧ t'.fs = t.fs ∧ t'.zs = t.zs ∧ t'.ss = t.ss ∧ t'.las = t.las ∧ t'.rs = t.rs ∧ t'.ds = t.ds ∧ t'.lns = t.lns) : TbO (W.setCell ⟨tb, j, none⟩ u) base tb t' a := by
 obtain ⟨r0, r1, r2, r3, r4, r5, r6, r7, r8, r9, r10⟩ := hr
 refine ⟨by rw [hc]; exact h.bx.set u hj, ?_, ?_, ?_, ?_, ?_, ?_, ?_, ?_, ?_, ?_, ?_⟩
 · rw [r0]; exact ownsRow_setCell_below h.tr hlt _
 · rw [r1]; exact ownsRow_setCell_below h.ws hlt _
 · rw [r2]; exact ownsRow_setCell_below h.ars hlt _
 · rw [r3]; exact ownsRow_setCell_below h.ps hlt _
 · rw [r4]; exact ownsRow_setCell_below h.fs hlt _
 · rw [r5]; exact ownsRow_setCell_below h.zs hlt _
 · rw [r6]; exact ownsRow_setCell_below h.ss hlt _
 · rw [r7]; exact ownsRow_setCell_below h.las hlt _
 · rw [r8]; exact ownsRow_setCell_below h.rs hlt _
 · rw [r9]; exact ownsRow_setCell_below h.ds hlt _
 · rw [r10]; exact ownsRow_setCell_below h.lns hlt _
theorem TbO.put_tr {W W' : World} {base tb : Nat} {t : Tb} {a : TbA} {v' : Value} (h : TbO W base tb t a) (hlt : tb < base) (y : Int) (hown : W'.ownsRow base 3 1 v' (t.tr.length + 1) (t.tr.map (Value.int .i64) ++ [.int .i64 y])) (hg : W.grownBy W' (Value.slice a.tr t.tr.length a.trc).ownBlock) :
  ∃ A' c', v' = .slice A' (t.tr.length + 1) c' ∧ TbO (W'.setCell ⟨tb, 7, none⟩ v') base tb { t with tr := t.tr ++ [y] } { a with tr := A', trc := c' } := by
 obtain ⟨A', c', rfl⟩ := own_sl hown
 refine ⟨A', c', rfl, ?_⟩
 have hr : ∀ k, (Value.slice a.tr t.tr.length a.trc).ownBlock = some k → base ≤ k := fun k hk => (World.ownsRow.lt h.tr k hk).1
 have hbx := (boxAt_grown h.bx hg (fun k hk e => by have := hr k hk; omega)).set (.slice A' (t.tr.length + 1) c') (j := 7) rfl
 refine ⟨?_, ?_, ?_, ?_, ?_, ?_, ?_, ?_, ?_, ?_, ?_, ?_⟩
 · have e : ({ t with tr := t.tr ++ [y] } : Tb).cells { a with tr := A', trc := c' } = (t.cells a).set 7 (.slice A' (t.tr.length + 1) c') := by simp [Tb.cells]
   rw [e]
   exact hbx
 · have e1 : (t.tr ++ [y]).length = t.tr.length + 1 := by simp
   have e2 : (t.tr ++ [y]).map (Value.int .i64) = t.tr.map (Value.int .i64) ++ [.int .i64 y] := by simp
   simp only [e1, e2]
   exact ownsRow_setCell_below hown (by simpa using hlt) _
 · exact ownsRow_setCell_below (own_kept h.ws h.tr (by decide) hg) (by simpa using hlt) _
 · exact ownsRow_setCell_below (own_kept h.ars h.tr (by decide) hg) (by simpa using hlt) _
 · exact ownsRow_setCell_below (own_kept h.ps h.tr (by decide) hg) (by simpa using hlt) _
 · exact ownsRow_setCell_below (own_kept h.fs h.tr (by decide) hg) (by simpa using hlt) _
 · exact ownsRow_setCell_below (own_kept h.zs h.tr (by decide) hg) (by simpa using hlt) _
 · exact ownsRow_setCell_below (own_kept h.ss h.tr (by decide) hg) (by simpa using hlt) _
 · exact ownsRow_setCell_below (own_kept h.las h.tr (by decide) hg) (by simpa using hlt) _
 · exact ownsRow_setCell_below (own_kept h.rs h.tr (by decide) hg) (by simpa using hlt) _
 · exact ownsRow_setCell_below (own_kept h.ds h.tr (by decide) hg) (by simpa using hlt) _
 · exact ownsRow_setCell_below (own_kept h.lns h.tr (by decide) hg) (by simpa using hlt) _
theorem troughF_snoc : ∀ (n : Nat) (a i : Int), troughF (n + 1) a i = troughF n a i ++ [if a = -1 then -1 else a + (i + n)]
 | 0, a, i => by simp [troughF]
 | n + 1, a, i => by
  have ih := troughF_snoc n a (i + 1)
  have e : i + 1 + (n : Int) = i + ((n + 1 : Nat) : Int) := by omega
  rw [e] at ih
  rw [show troughF (n + 1 + 1) a i = (if a = -1 then -1 else a + i) :: troughF (n + 1) a (i + 1) from rfl, ih]
  rfl
theorem troughF_len : ∀ (n : Nat) (a i : Int), (troughF n a i).length = n
 | 0, a, i => rfl
 | n + 1, a, i => by unfold troughF; rw [List.length_cons, troughF_len n]
attribute [local go_sem ↓] evalL getL64 setL64
attribute [local go_sem ↓] getL8 setL8
attribute [local go_sem ↓] getL1 getL0
theorem cells1L {w : World} {g : Nat} {x : Value} (h : w.cell? ⟨g, 0, none⟩ = some x) : ∀ j u, [x][j]? = some u → w.cell? ⟨g, j, none⟩ = some u := fun j u hu => by
 match j, hu with
 | 0, hu => cases hu; exact h
def HeadOut (T : Tb) (base tb vb q : Nat) (x : IV) (B : Option Addr) (d : Nat) (m : Bool) (w : World) (e : Ending) (w' : World) : Prop := e = .returned (.tuple #[]) ∧ BelQ tb q w w' ∧ VAt w' vb x B d m ∧ ∃ a', TbO w' base tb T a'
set_option maxRecDepth 100000 in
set_option maxHeartbeats 4000000 in
theorem head_any (w wa : World) (base tb vb : Nat) (t : Tb) (a : TbA) (x : IV) (B : Option Addr) (d : Nat) (m : Bool) (hO : TbO wa base tb t a) (hwa : Below wa.heap.size wa w) (hav : wa.heap.size ≤ vb) (hlt : tb < base) (hbw : base ≤ w.heap.size) (hV : VAt w vb x B d m) (hK : ∃ w0 : World, KsAt w0 B x.keys ∧ Below w0.heap.size w0 w ∧ w0.heap.size ≤ tb) (ho : IvOk x) (hr : ArOk x) (hsm : ∀ vs, getR x.keys k_trough = some vs → ∀ z ∈ vs, -1073741824 ≤ z ∧ z ≤ 1073741824) (hltr : t.tr.length ≤ 100000) (q : Nat) (wz : World) (hOz : TbO wz base tb t a) (hqz : wz.heap.size ≤ q) (hqa : q < wa.heap.size) :
  Calls Tryz.prog 97 #[.pointer (some ⟨tb, 0, none⟩), .pointer (some ⟨vb, 0, none⟩)] w (HeadOut (headR t x) base tb vb q x B d (missR x k_radius m) w) := by
 have H1 := hQ0 (ar_has hr).1
 have H2 := hQ0 (ar_has hr).2
 have hzt := hOz.bx.lt
 have HROW : Hid (∀ k, (Value.slice a.tr t.tr.length a.trc).ownBlock = some k → k < wa.heap.size ∧ k ≠ q) := hQ0 (fun k hk => by
  have r1 := (World.ownsRow.lt hO.tr k hk).2
  have r2 := (World.ownsRow.lt hOz.tr k hk).2
  omega)
 clear hOz
 have HSM := hQ0 hsm
 have HLTR := hQ0 hltr
 clear hsm hltr
 have HO := hQ0 hO
 have HV := hQ0 hV
 have HK := hQ0 hK
 have HA := hQ0 hwa
 have htl := hO.bx.lt
 have hzw := hwa.size
 obtain ⟨TC, hTC⟩ : ∃ z, z = t.cells a := ⟨_, rfl⟩
 have HTC := hQ0 hTC
 clear hO hV hK hwa hTC
 go_enter Tryz.func97, Tryz.ntmps97; (try simp only [List.append_eq, List.cons_append, List.nil_append])
 go_upto_region 1 with (first
  | (have hq := hb2; go_at_call 96; refine (or_any _ _ x B d _ k_rest 8 HV2.out ho (Has1.ne (H1.out _ (by simp [keys1])))).mono ?_; rintro e w3 ⟨rfl, hb3⟩; have HV3 := hQ0 (HV2.out.below hb3); have HO3 := hQ0 ((HO.out.below HA.out (Nat.le_refl _)).bx.lt); have HB3 : Hid (Below wa.heap.size wa w3) := hQ0 (HB2.out.trans (hb3.mono HB2.out.size)); have HT3 : Hid (BoxAt w3 tb TC) := hQ0 (by rw [HTC.out]; exact HO.out.bx.below HB3.out htl); have c0 := HT3.out.c 0 (.int .i64 t.rad) (by rw [HTC.out]; rfl); have c1 := HT3.out.c 1 (.int .i64 t.bal) (by rw [HTC.out]; rfl); have c2 := HT3.out.c 2 (.int .i64 t.rst) (by rw [HTC.out]; rfl); have cz := HT3.out.fz; have cl := HT3.out.lt)
  | (have hq := hbt1; go_at_call 96; refine (or_any _ _ x B d _ k_balls 1 HV1.out ho (Has1.ne (H1.out _ (by simp [keys1])))).mono ?_; rintro e w2 ⟨rfl, hb2⟩; have HV2 := hQ0 (HV1.out.below hb2); have HB2 : Hid (Below wa.heap.size wa w2) := hQ0 (HB1.out.trans (hb2.mono HB1.out.size)))
  | (go_at_call 101; refine (vone_any _ _ x B d _ k_radius HV.out ho (H1.out _ (by simp [keys1]))).mono ?_; rintro e w1 ⟨rfl, hbt1, hV1⟩; have HV1 := hQ0 hV1; have HB1 : Hid (Below wa.heap.size wa w1) := hQ0 (HA.out.trans (hbt1.toBelow hav hzw)); clear hV1))
 (refine pin_eqT (fun w4 hE_w4 => ?_))
 have HO4 : Hid (TbO w4 base tb { t with rad := oneR x k_radius, bal := orR x k_balls 1, rst := orR x k_rest 8 } a) := hQ0 (by
  rw [hE_w4]
  refine TbO.set0 (t := { t with rad := oneR x k_radius, bal := orR x k_balls 1 }) (old := .int .i64 t.rst) (TbO.set0 (t := { t with rad := oneR x k_radius }) (old := .int .i64 t.bal) (TbO.set0 (t := t) (old := .int .i64 t.rad) (HO.out.below HB3.out (Nat.le_refl _)) hlt rfl rfl ⟨rfl, rfl, rfl, rfl, rfl, rfl, rfl, rfl, rfl, rfl, rfl⟩) hlt rfl rfl ⟨rfl, rfl, rfl, rfl, rfl, rfl, rfl, rfl, rfl, rfl, rfl⟩) hlt rfl rfl ⟨rfl, rfl, rfl, rfl, rfl, rfl, rfl, rfl, rfl, rfl, rfl⟩)
 have htv : tb < vb := by omega
 have HV4 : Hid (VAt w4 vb x B d (missR x k_radius m)) := hQ0 (by
  obtain ⟨w0, q1, q2, q3⟩ := HK.out
  have z0 := q2.size
  have z1 := hbt1.size
  have z2 := hb2.size
  have z3 := hb3.size
  rw [hE_w4]
  refine ⟨((HV3.out.bx.low (by simp only; omega) _).low (by simp only; omega) _).low (by simp only; omega) _, w0, q1, ?_, by omega⟩
  exact ((((((q2.trans (hbt1.toBelow (by omega) z0)).trans (hb2.mono (by omega))).trans (hb3.mono (by omega))).setCell (by simpa using q3) _).setCell (by simpa using q3) _).setCell (by simpa using q3) _))
 have HBt4 : Hid (BelQ tb q w w4) := hQ0 (by
  have z1 := hbt1.size
  have z2 := hb2.size
  rw [hE_w4]
  exact (((((BelQ.of (tb := tb) (q := q) (hbt1.toBelow (B := wa.heap.size) hav hzw) (by omega) hqa).call hb2 (by omega) (by omega)).call hb3 (by omega) (by omega)).set (by simp) (by simp only; omega)).set (by simp) (by simp only; omega)).set (by simp) (by simp only; omega))
 have HK4 : Hid (∃ w0 : World, KsAt w0 B x.keys ∧ Below w0.heap.size w0 w4 ∧ w0.heap.size ≤ tb) := hQ0 (by
  obtain ⟨w0, q1, q2, q3⟩ := HK.out
  have z0 := q2.size
  have z1 := hbt1.size
  have z2 := hb2.size
  rw [hE_w4]
  exact ⟨w0, q1, ((((((q2.trans (hbt1.toBelow (by omega) z0)).trans (hb2.mono (by omega))).trans (hb3.mono (by omega))).setCell (by simpa using q3) _).setCell (by simpa using q3) _).setCell (by simpa using q3) _), q3⟩)
 clear hE_w4 hbt1 hb2 hb3 c0 c1 c2 cz cl HV3 HV2 HV1 HO3 HB3 HT3 HB2 HB1 HV HO HA HK
 obtain ⟨T4, hT4⟩ : ∃ T : Tb, T = { t with rad := oneR x k_radius, bal := orR x k_balls 1, rst := orR x k_rest 8 } := ⟨_, rfl⟩
 rw [← hT4] at HO4
 have HT4 := hQ0 hT4
 clear hT4
 go_upto_region 2 with (go_at_call 158; refine (vpair_any _ _ x B d _ k_gravity HV4.out ho (H2.out _ (by simp [keys2]))).mono ?_; rintro e w5 ⟨rfl, hb5⟩; have HO5 := hQ0 (HO4.out.below hb5 (Nat.le_refl _)); have HV5 := hQ0 (HV4.out.below hb5); have c1 := HO5.out.bx.c 3 (.int .i64 T4.gx) rfl; have c2 := HO5.out.bx.c 4 (.int .i64 T4.gy) rfl; have cz := HO5.out.bx.fz; have cl := HO5.out.bx.lt)
 (refine pin_eqT (fun w6 hE_w6 => ?_))
 have HO6 : Hid (TbO w6 base tb { T4 with gx := (pairR x k_gravity).1, gy := (pairR x k_gravity).2 } a) := hQ0 (by
  rw [hE_w6]
  exact TbO.set0 (t := { T4 with gx := (pairR x k_gravity).1 }) (old := .int .i64 T4.gy) (TbO.set0 (t := T4) (old := .int .i64 T4.gx) HO5.out hlt rfl rfl ⟨rfl, rfl, rfl, rfl, rfl, rfl, rfl, rfl, rfl, rfl, rfl⟩) hlt rfl rfl ⟨rfl, rfl, rfl, rfl, rfl, rfl, rfl, rfl, rfl, rfl, rfl⟩)
 have HV6 : Hid (VAt w6 vb x B d (missR x k_radius m)) := hQ0 (by
  obtain ⟨w0, q1, q2, q3⟩ := HK4.out
  have z0 := q2.size
  rw [hE_w6]
  exact ⟨(HV5.out.bx.low (by simp only; omega) _).low (by simp only; omega) _, w0, q1, ((q2.trans (hb5.mono (by omega))).setCell (by simpa using q3) _).setCell (by simpa using q3) _, by omega⟩)
 have HBt6 : Hid (BelQ tb q w w6) := hQ0 (by
  have z0 := HBt4.out.b.size
  have z1 := HO4.out.bx.lt
  rw [hE_w6]
  exact ((HBt4.out.call hb5 (by omega) (by omega)).set (by simp) (by simp only; omega)).set (by simp) (by simp only; omega))
 have HK6 : Hid (∃ w0 : World, KsAt w0 B x.keys ∧ Below w0.heap.size w0 w6 ∧ w0.heap.size ≤ tb) := hQ0 (by
  obtain ⟨w0, q1, q2, q3⟩ := HK4.out
  have z0 := q2.size
  rw [hE_w6]
  exact ⟨w0, q1, ((q2.trans (hb5.mono (by omega))).setCell (by simpa using q3) _).setCell (by simpa using q3) _, q3⟩)
 clear hE_w6 hb5 c1 c2 cz cl HV4 HV5 HO4 HO5 HK4 HBt4
 obtain ⟨T6, hT6⟩ : ∃ T : Tb, T = { T4 with gx := (pairR x k_gravity).1, gy := (pairR x k_gravity).2 } := ⟨_, rfl⟩
 rw [← hT6] at HO6
 have HT6 := hQ0 hT6
 clear hT6
 go_upto_region 3 with (go_at_call 158; refine (vpair_any _ _ x B d _ k_drag HV6.out ho (H2.out _ (by simp [keys2]))).mono ?_; rintro e w7 ⟨rfl, hb7⟩; have HO7 := hQ0 (HO6.out.below hb7 (Nat.le_refl _)); have HV7 := hQ0 (HV6.out.below hb7); have c1 := HO7.out.bx.c 5 (.int .i64 T6.drg) rfl; have c2 := HO7.out.bx.c 6 (.int .i64 T6.shf) rfl; have cz := HO7.out.bx.fz; have cl := HO7.out.bx.lt)
 (refine pin_eqT (fun w8 hE_w8 => ?_))
 have HO8 : Hid (TbO w8 base tb { T6 with drg := (pairR x k_drag).1, shf := (pairR x k_drag).2 } a) := hQ0 (by
  rw [hE_w8]
  exact TbO.set0 (t := { T6 with drg := (pairR x k_drag).1 }) (old := .int .i64 T6.shf) (TbO.set0 (t := T6) (old := .int .i64 T6.drg) HO7.out hlt rfl rfl ⟨rfl, rfl, rfl, rfl, rfl, rfl, rfl, rfl, rfl, rfl, rfl⟩) hlt rfl rfl ⟨rfl, rfl, rfl, rfl, rfl, rfl, rfl, rfl, rfl, rfl, rfl⟩)
 have HV8 : Hid (VAt w8 vb x B d (missR x k_radius m)) := hQ0 (by
  obtain ⟨w0, q1, q2, q3⟩ := HK6.out
  have z0 := q2.size
  rw [hE_w8]
  exact ⟨(HV7.out.bx.low (by simp only; omega) _).low (by simp only; omega) _, w0, q1, ((q2.trans (hb7.mono (by omega))).setCell (by simpa using q3) _).setCell (by simpa using q3) _, by omega⟩)
 have HBt8 : Hid (BelQ tb q w w8) := hQ0 (by
  have z0 := HBt6.out.b.size
  have z1 := HO6.out.bx.lt
  rw [hE_w8]
  exact ((HBt6.out.call hb7 (by omega) (by omega)).set (by simp) (by simp only; omega)).set (by simp) (by simp only; omega))
 have HK8 : Hid (∃ w0 : World, KsAt w0 B x.keys ∧ Below w0.heap.size w0 w8 ∧ w0.heap.size ≤ tb) := hQ0 (by
  obtain ⟨w0, q1, q2, q3⟩ := HK6.out
  have z0 := q2.size
  rw [hE_w8]
  exact ⟨w0, q1, ((q2.trans (hb7.mono (by omega))).setCell (by simpa using q3) _).setCell (by simpa using q3) _, q3⟩)
 clear hE_w8 hb7 c1 c2 cz cl HV6 HV7 HO6 HO7 HK6 HBt6
 obtain ⟨T8, hT8⟩ : ∃ T : Tb, T = { T6 with drg := (pairR x k_drag).1, shf := (pairR x k_drag).2 } := ⟨_, rfl⟩
 rw [← hT8] at HO8
 have HT8 := hQ0 hT8
 clear hT8
 have v0 := HV8.out.bx.c 0 (.string x.word) rfl
 have v1 := HV8.out.bx.c 1 (.string x.name) rfl
 have v2 := HV8.out.bx.c 2 (.slice B x.keys.length d) rfl
 have v3 := HV8.out.bx.c 3 (.int .i64 x.at_) rfl
 have KG := get_any x B d k_trough w8 HV8.out.kat ho.1 ho.2
 unfold vOfX at KG
 cases hG : getR x.keys k_trough with
 | none =>
  rw [hG] at KG
  have HKG := hQ0 KG
  clear KG
  have HE : Hid (headR t x = T8) := hQ0 (by unfold headR troughR; rw [hG, HT8.out, HT6.out, HT4.out]; simp)
  clear hG
  go_wp2_with (go_at_call 103; refine HKG.out.mono ?_; rintro e w9 ⟨hb9, rfl⟩)
  have z8 := HBt8.out.b.size
  have zl := HO8.out.bx.lt
  refine bodyPost_ret (v := .tuple #[]) (by simp only [results, Tryz.results97]; go_simp) rfl ⟨?_, ?_⟩
  · rfl
  · exact ⟨HBt8.out.call hb9 (by omega) (by omega), HV8.out.below hb9, a, by rw [HE.out]; exact HO8.out.below hb9 (Nat.le_refl _)⟩
 | some vs =>
  obtain ⟨s0, rfl⟩ : ∃ s, vs = [s] := by
   have h := H1.out k_trough (by simp [keys1]) vs hG
   match vs, h with
   | [s], _ => exact ⟨s, rfl⟩
  have hs0 := HSM.out _ hG s0 (by simp)
  rw [hG] at KG
  have HKG := hQ0 KG
  clear KG
  obtain ⟨N, hN⟩ : ∃ N, N = min T8.bal.toNat 7 := ⟨_, rfl⟩
  have HE : Hid (headR t x = { T8 with tr := t.tr ++ troughF N s0 0 }) := hQ0 (by unfold headR troughR; rw [hG, hN, HT8.out, HT6.out, HT4.out]; rfl)
  have HTR : Hid (T8.tr = t.tr) := hQ0 (by rw [HT8.out, HT6.out, HT4.out])
  have z8 := HBt8.out.b.size
  have zl := HO8.out.bx.lt
  have HN := hQ0 hN
  clear hG hN
  have HA8 := hQ0 z8
  have hva := HV8.out.bx.lt
  go_wp2_with fail
  (go_at_call 103; refine HKG.out.mono ?_; rintro e w9 ⟨hb9, A, c, rfl, hown⟩)
  obtain ⟨g, hA, hgl, hgb, hgc, hcc⟩ := own_cells hown (by simp)
  subst hA
  have cg0 := hcc 0 (.int .i64 s0) rfl
  clear hcc v0 v1 v2 v3
  go_wp2_with fail
  have HV9 := hQ0 (HV8.out.below hb9)
  have HO9 := hQ0 (HO8.out.below hb9 (Nat.le_refl _))
  have HB9 : Hid (BelQ tb q w w9) := hQ0 (HBt8.out.call hb9 (by omega) (by omega))
  have hvg : vb ≠ g := by omega
  have HR9 : Hid (∀ k, (Value.slice a.tr T8.tr.length a.trc).ownBlock = some k → k ≠ g ∧ k ≠ vb ∧ k ≠ q) := hQ0 (fun k hk => by
   rw [HTR.out] at hk
   have h1 := HROW.out k hk
   have h2 := z8
   have h3 : wa.heap.size ≤ w8.heap.size := Nat.le_trans hzw z8
   omega)
  have HO9' : Hid (TbO w9 base tb { T8 with tr := T8.tr ++ troughF 0 s0 0 } a) := hQ0 (by
   have e : ({ T8 with tr := T8.tr ++ troughF 0 s0 0 } : Tb) = T8 := by simp [troughF]
   rw [e]; exact HO9.out)
  have HKX : Hid (∃ w0 : World, KsAt w0 B x.keys ∧ Below w0.heap.size w0 w9 ∧ w0.heap.size ≤ tb) := hQ0 (by
   obtain ⟨w0, q1, q2, q3⟩ := HK8.out
   exact ⟨w0, q1, q2.trans (hb9.mono q2.size), q3⟩)
  clear HO8 HO9 HV8 HBt8 HK8 HKG hb9 hown HT8 HT6 HT4 H1 H2
  have Hs0 := hQ0 hs0
  clear hs0
  have HBase := hQ0 hbw
  go_loopg [6] 9 (fun gk tt wr => ∃ (k : Nat) (a' : TbA), k ≤ N ∧ 8 - k < gk ∧ tt = .int .i64 k ∧ Hid (BelQ tb q w wr) ∧ Hid (VAt wr vb x B d (missR x k_radius m)) ∧ Hid (wr.cell? ⟨g, 0, none⟩ = some (.int .i64 s0) ∧ g < wr.heap.size) ∧ Hid (∃ w0 : World, KsAt w0 B x.keys ∧ Below w0.heap.size w0 wr ∧ w0.heap.size ≤ tb) ∧ Hid (∀ y, (Value.slice a'.tr (T8.tr ++ troughF k s0 0).length a'.trc).ownBlock = some y → y ≠ g ∧ y ≠ vb ∧ y ≠ q) ∧ Hid (TbO wr base tb { T8 with tr := T8.tr ++ troughF k s0 0 } a'))
  case atStart => exact ⟨0, a, by omega, by omega, rfl, HB9, HV9, hQ0 ⟨cg0, hgl⟩, HKX, hQ0 (fun y hy => HR9.out y (by simpa [troughF] using hy)), HO9'⟩
  case round =>
   obtain ⟨wq, rfl⟩ : ∃ z, z = wr := ⟨_, rfl⟩
   clear HB9 HV9 HKX HR9 HO9' cg0 hgl
   obtain ⟨k, a', hk, hkk, rfl, HBq, HVq, HCq, HKq, HRq, HOq⟩ := hrel
   obtain ⟨L, hL⟩ : ∃ L : List Int, L = T8.tr ++ troughF k s0 0 := ⟨_, rfl⟩
   rw [← hL] at HRq HOq
   have HL := hQ0 hL
   clear hL
   have c1 := HOq.out.bx.c 1 (.int .i64 T8.bal) rfl
   have c7 := HOq.out.bx.c 7 (.slice a'.tr L.length a'.trc) rfl
   have cz := HOq.out.bx.fz
   have cl := HOq.out.bx.lt
   have cg := HCq.out.1
   have hgl := HCq.out.2
   have i6 : (k : Int) ≤ 9223372036854775807 := by have := HN.out; omega
   by_cases h1 : (k : Int) < T8.bal
   · by_cases h2 : (k : Int) ≤ 6
     · obtain ⟨y, hy⟩ : ∃ y : Int, y = if s0 = -1 then -1 else s0 + (0 + k) := ⟨_, rfl⟩
       have hk1 : k + 1 ≤ N := by have := HN.out; omega
       have HL1 : Hid (T8.tr ++ troughF (k + 1) s0 0 = L ++ [y]) := hQ0 (by rw [HL.out, hy, troughF_snoc, List.append_assoc])
       have HLl : Hid (L.length ≤ 1000000) := hQ0 (by rw [HL.out, List.length_append, troughF_len, HTR.out]; have := HLTR.out; omega)
       have hs0 := Hs0.out
       by_cases hm1 : s0 = -1
       · subst hm1
         obtain rfl : y = -1 := by rw [hy]; rfl
         clear hy
         have hzq := HBq.out.b.size
         have hwb : base ≤ wq.heap.size := by have h := HBase.out; omega
         have HOw := hQ0 (HOq.out.below ((Below.refl wq.heap.size wq).alloc (Nat.le_refl _) (.cells #[.int .i64 (-1)] 3)) (Nat.le_refl _))
         have hrow := HRq.out
         have hrb : ∀ u, (Value.slice a'.tr L.length a'.trc).ownBlock = some u → base ≤ u ∧ u < wq.heap.size := fun u hu => World.ownsRow.lt HOq.out.tr u hu
         have HRb := hQ0 hrb
         have HRo := hQ0 hrow
         clear hrb hrow
         go_wp2_with (at_builtin; go_must (refine wpList_append_one rfl _ _ 24 3 _ 1 8 rfl Tryz.underlying24 intInfo rfl (by decide) (by decide) base (.slice a'.tr L.length a'.trc) L.length (L.map (Value.int .i64)) [.int .i64 (-1)] rfl HOw.out.tr wq.heap.size 1 rfl rfl (cells1L (by go_simp)) (by simp [Value.oneCell']) HLl.out (by simp; omega) ?_))
         intro v' w' hown' hgr' hbk'
         obtain ⟨A', c', rfl, hput⟩ := HOw.out.put_tr hlt (-1) hown' hgr'
         have HP := hQ0 hput
         have hBw : Below wq.heap.size wq (wq.alloc (.cells #[.int .i64 (-1)] 3)) := (Below.refl wq.heap.size wq).alloc (Nat.le_refl _) _
         have hsz1 : (wq.alloc (.cells #[.int .i64 (-1)] 3)).heap.size = wq.heap.size + 1 := by simp
         have HB' : Hid (BelQ tb q w w') := hQ0 (((HBq.out.alloc (by omega) (by omega) _)).grown hgr' (fun u hu => by have := HRb.out u hu; omega) (by omega) (by omega) (fun u hu => by have := HRo.out u hu; omega))
         have HV' : Hid (VAt w' vb x B d (missR x k_radius m)) := hQ0 (by
          obtain ⟨w0, q1, q2, q3⟩ := HKq.out
          have z0 := q2.size
          exact ⟨boxAt_grown (HVq.out.bx.alloc _) hgr' (fun u hu e => by have := HRo.out u hu; omega), w0, q1, (q2.alloc z0 _).trans (below_grown hgr' (fun u hu => by have := HRb.out u hu; omega) (by omega)), by omega⟩)
         have HK' : Hid (∃ w0 : World, KsAt w0 B x.keys ∧ Below w0.heap.size w0 w' ∧ w0.heap.size ≤ tb) := hQ0 (by
          obtain ⟨w0, q1, q2, q3⟩ := HKq.out
          have z0 := q2.size
          exact ⟨w0, q1, (q2.alloc z0 _).trans (below_grown hgr' (fun u hu => by have := HRb.out u hu; omega) (by omega)), q3⟩)
         have hszw : wq.heap.size + 1 ≤ w'.heap.size := by have := hgr'.size; omega
         have HC' : Hid (w'.cell? ⟨g, 0, none⟩ = some (.int .i64 (-1)) ∧ g < w'.heap.size) := hQ0 ⟨(World.cell?_of_block (a := ⟨g, 0, none⟩) (hgr'.block g (by simp; omega) (fun e => by have := HRo.out g e.symm; omega))).trans ((World.cell?_of_block (a := ⟨g, 0, none⟩) (heap_alloc_old wq _ hgl)).trans cg), by omega⟩
         have HR' : Hid (∀ u, (Value.slice A' (L.length + 1) c').ownBlock = some u → u ≠ g ∧ u ≠ vb ∧ u ≠ q) := hQ0 (fun u hu => by
          rcases hbk' with e | e
          · rw [hu] at e
            exact HRo.out u e.symm
          · rw [hu] at e
            simp only [Option.some.injEq] at e
            have := HVq.out.bx.lt
            omega)
         have hT' := hput.bx
         have c7' : w'.cell? ⟨tb, 7, none⟩ = some (.slice a'.tr L.length a'.trc) := (World.cell?_of_block (a := ⟨tb, 7, none⟩) (hgr'.block tb (by simp; omega) (fun e => by have := HRb.out tb e.symm; omega))).trans ((World.cell?_of_block (a := ⟨tb, 7, none⟩) (heap_alloc_old wq _ cl)).trans c7)
         have cz' : ∀ o, w'.frozen? ⟨tb, o, none⟩ = false := fun o => (World.frozen?_of_block (a := ⟨tb, o, none⟩) (hgr'.block tb (by simp; omega) (fun e => by have := HRb.out tb e.symm; omega))).trans ((World.frozen?_of_block (a := ⟨tb, o, none⟩) (heap_alloc_old wq _ cl)).trans (cz o))
         have cl' : tb < w'.heap.size := by omega
         clear hput hT' hown' hgr' hbk' c1 c7 cz cl cg hgl HBq HVq HKq HOq HCq HOw hBw
         go_wp2_with fail
         go_roundg (8 - k)
         case measure => omega
         case rel => exact ⟨k + 1, { a' with tr := A', trc := c' }, hk1, by omega, by go_num, hQ0 (HB'.out.set (by simp) (by simp only; omega)), hQ0 (by
           obtain ⟨b, w0, r1, r2, r3⟩ := HV'.out
           obtain ⟨w0, q1, q2, q3⟩ := HK'.out
           exact ⟨b.low (by simp only; omega) _, w0, q1, q2.setCell (by simpa using q3) _, by omega⟩), hQ0 ⟨(World.cell?_setCell_other w' _ _ _ (fun e => by simp only [Addr.mk.injEq] at e; omega)).trans HC'.out.1, by simpa using HC'.out.2⟩, hQ0 (by
           obtain ⟨w0, q1, q2, q3⟩ := HK'.out
           exact ⟨w0, q1, q2.setCell (by simpa using q3) _, q3⟩), hQ0 (by
           have e : (T8.tr ++ troughF (k + 1) (-1) 0).length = L.length + 1 := by rw [HL1.out]; simp
           rw [e]; exact HR'.out), hQ0 (by rw [HL1.out]; exact HP.out)⟩
       · have hy2 : y = s0 + k := by rw [hy, if_neg hm1]; omega
         clear hy
         have hwr : IntKind.i64.wrap (s0 + (k : Int)) = y := by rw [hy2, IntKind.wrap_i64]; omega
         have hne : (s0 != -1) = true := by simpa using hm1
         clear hy2
         have hzq := HBq.out.b.size
         have hwb : base ≤ wq.heap.size := by have h := HBase.out; omega
         have HOw := hQ0 (HOq.out.below ((Below.refl wq.heap.size wq).alloc (Nat.le_refl _) (.cells #[.int .i64 y] 3)) (Nat.le_refl _))
         have hrow := HRq.out
         have hrb : ∀ u, (Value.slice a'.tr L.length a'.trc).ownBlock = some u → base ≤ u ∧ u < wq.heap.size := fun u hu => World.ownsRow.lt HOq.out.tr u hu
         have HRb := hQ0 hrb
         have HRo := hQ0 hrow
         clear hrb hrow
         go_wp2_with (at_builtin; go_must (refine wpList_append_one rfl _ _ 24 3 _ 1 8 rfl Tryz.underlying24 intInfo rfl (by decide) (by decide) base (.slice a'.tr L.length a'.trc) L.length (L.map (Value.int .i64)) [.int .i64 y] rfl HOw.out.tr wq.heap.size 1 rfl rfl (cells1L (by go_simp)) (by simp [Value.oneCell']) HLl.out (by simp; omega) ?_))
         intro v' w' hown' hgr' hbk'
         obtain ⟨A', c', rfl, hput⟩ := HOw.out.put_tr hlt y hown' hgr'
         have HP := hQ0 hput
         have hBw : Below wq.heap.size wq (wq.alloc (.cells #[.int .i64 y] 3)) := (Below.refl wq.heap.size wq).alloc (Nat.le_refl _) _
         have hsz1 : (wq.alloc (.cells #[.int .i64 y] 3)).heap.size = wq.heap.size + 1 := by simp
         have HB' : Hid (BelQ tb q w w') := hQ0 (((HBq.out.alloc (by omega) (by omega) _)).grown hgr' (fun u hu => by have := HRb.out u hu; omega) (by omega) (by omega) (fun u hu => by have := HRo.out u hu; omega))
         have HV' : Hid (VAt w' vb x B d (missR x k_radius m)) := hQ0 (by
          obtain ⟨w0, q1, q2, q3⟩ := HKq.out
          have z0 := q2.size
          exact ⟨boxAt_grown (HVq.out.bx.alloc _) hgr' (fun u hu e => by have := HRo.out u hu; omega), w0, q1, (q2.alloc z0 _).trans (below_grown hgr' (fun u hu => by have := HRb.out u hu; omega) (by omega)), by omega⟩)
         have HK' : Hid (∃ w0 : World, KsAt w0 B x.keys ∧ Below w0.heap.size w0 w' ∧ w0.heap.size ≤ tb) := hQ0 (by
          obtain ⟨w0, q1, q2, q3⟩ := HKq.out
          have z0 := q2.size
          exact ⟨w0, q1, (q2.alloc z0 _).trans (below_grown hgr' (fun u hu => by have := HRb.out u hu; omega) (by omega)), q3⟩)
         have hszw : wq.heap.size + 1 ≤ w'.heap.size := by have := hgr'.size; omega
         have HC' : Hid (w'.cell? ⟨g, 0, none⟩ = some (.int .i64 s0) ∧ g < w'.heap.size) := hQ0 ⟨(World.cell?_of_block (a := ⟨g, 0, none⟩) (hgr'.block g (by simp; omega) (fun e => by have := HRo.out g e.symm; omega))).trans ((World.cell?_of_block (a := ⟨g, 0, none⟩) (heap_alloc_old wq _ hgl)).trans cg), by omega⟩
         have HR' : Hid (∀ u, (Value.slice A' (L.length + 1) c').ownBlock = some u → u ≠ g ∧ u ≠ vb ∧ u ≠ q) := hQ0 (fun u hu => by
          rcases hbk' with e | e
          · rw [hu] at e
            exact HRo.out u e.symm
          · rw [hu] at e
            simp only [Option.some.injEq] at e
            have := HVq.out.bx.lt
            omega)
         have hT' := hput.bx
         have c7' : w'.cell? ⟨tb, 7, none⟩ = some (.slice a'.tr L.length a'.trc) := (World.cell?_of_block (a := ⟨tb, 7, none⟩) (hgr'.block tb (by simp; omega) (fun e => by have := HRb.out tb e.symm; omega))).trans ((World.cell?_of_block (a := ⟨tb, 7, none⟩) (heap_alloc_old wq _ cl)).trans c7)
         have cz' : ∀ o, w'.frozen? ⟨tb, o, none⟩ = false := fun o => (World.frozen?_of_block (a := ⟨tb, o, none⟩) (hgr'.block tb (by simp; omega) (fun e => by have := HRb.out tb e.symm; omega))).trans ((World.frozen?_of_block (a := ⟨tb, o, none⟩) (heap_alloc_old wq _ cl)).trans (cz o))
         have cl' : tb < w'.heap.size := by omega
         clear hput hT' hown' hgr' hbk' c1 c7 cz cl cg hgl HBq HVq HKq HOq HCq HOw hBw
         go_wp2_with fail
         go_roundg (8 - k)
         case measure => omega
         case rel => exact ⟨k + 1, { a' with tr := A', trc := c' }, hk1, by omega, by go_num, hQ0 (HB'.out.set (by simp) (by simp only; omega)), hQ0 (by
           obtain ⟨b, w0, r1, r2, r3⟩ := HV'.out
           obtain ⟨w0, q1, q2, q3⟩ := HK'.out
           exact ⟨b.low (by simp only; omega) _, w0, q1, q2.setCell (by simpa using q3) _, by omega⟩), hQ0 ⟨(World.cell?_setCell_other w' _ _ _ (fun e => by simp only [Addr.mk.injEq] at e; omega)).trans HC'.out.1, by simpa using HC'.out.2⟩, hQ0 (by
           obtain ⟨w0, q1, q2, q3⟩ := HK'.out
           exact ⟨w0, q1, q2.setCell (by simpa using q3) _, q3⟩), hQ0 (by
           have e : (T8.tr ++ troughF (k + 1) s0 0).length = L.length + 1 := by rw [HL1.out]; simp
           rw [e]; exact HR'.out), hQ0 (by rw [HL1.out]; exact HP.out)⟩
     · have hkN : k = N := by have := HN.out; omega
       have HF : Hid (TbO wq base tb (headR t x) a') := hQ0 (by rw [HE.out, ← hkN, ← HTR.out, ← HL.out]; exact HOq.out)
       clear hkk hgl i6 HRq HKq HOq
       go_wp2_with fail
       refine bodyPost_ret (v := .tuple #[]) (by simp only [results, Tryz.results97]; go_simp) rfl ⟨?_, ?_⟩
       · rfl
       · exact ⟨HBq.out, HVq.out, a', HF.out⟩
   · have hkN : k = N := by have := HN.out; omega
     have HF : Hid (TbO wq base tb (headR t x) a') := hQ0 (by rw [HE.out, ← hkN, ← HTR.out, ← HL.out]; exact HOq.out)
     clear hkk hgl i6 HRq HKq HOq
     go_wp2_with fail
     refine bodyPost_ret (v := .tuple #[]) (by simp only [results, Tryz.results97]; go_simp) rfl ⟨?_, ?_⟩
     · rfl
     · exact ⟨HBq.out, HVq.out, a', HF.out⟩
end Go.Proofs.YtbpcjpiaimdpnaaGreatDoor
namespace Go.Proofs.YtbpcjpiaimdpnaaGreatDoor
open Go
theorem size_app (h s : ByteArray) : (h ++ s).size = h.size + s.size := ByteArray.size_append
theorem byteAt_app (h s : ByteArray) (i : Nat) : byteAt (h ++ s) (h.size + i) = byteAt s i := by
 have e : (h ++ s).data.toList = h.data.toList ++ s.data.toList := by simp
 have l : h.data.toList.length = h.size := by simp
 simp only [byteAt, e, List.getD, ← l, List.getElem?_append_right (Nat.le_add_right _ _), Nat.add_sub_cancel_left]
theorem byteAt_app_left (h s : ByteArray) {i : Nat} (hi : i < h.size) : byteAt (h ++ s) i = byteAt h i := by
 have e : (h ++ s).data.toList = h.data.toList ++ s.data.toList := by simp
 have l : h.data.toList.length = h.size := by simp
 simp only [byteAt, e, List.getD]
 rw [List.getElem?_append_left (by rw [l]; exact hi)]
theorem cOf_app (h s : ByteArray) (i : Nat) : cOf (h ++ s) (h.size + i) = cOf s i := by unfold cOf; rw [byteAt_app]
theorem cOf_app_left (h s : ByteArray) {i : Nat} (hi : i < h.size) : cOf (h ++ s) i = cOf h i := by unfold cOf; rw [byteAt_app_left h s hi]
end Go.Proofs.YtbpcjpiaimdpnaaGreatDoor
namespace Go.Proofs.YtbpcjpiaimdpnaaGreatDoor
open Go
set_option linter.unusedVariables false
theorem run_uniq {p : Int → Bool} {u : ByteArray} {d m : Nat} (hd : d ≤ m) (hm : m ≤ u.size) (h1 : ∀ j, d ≤ j → j < m → p (cOf u j) = true) (h2 : m < u.size → p (cOf u m) = false) : run p u d = m := by
 have g := run_ge p u d
 have l := run_le p u (i := d) (by omega)
 rcases Nat.lt_trichotomy (run p u d) m with h | h | h
 · have := run_end (p := p) (s := u) (i := d) (by omega)
   rw [h1 _ g h] at this; cases this
 · exact h
 · have := run_mem (p := p) (s := u) hd h
   rw [h2 (by omega)] at this; cases this
theorem num_eq {M : Int} {u s : ByteArray} {i m : Nat} (hm : m ≤ u.size) (hs : i + m ≤ s.size) (hc : ∀ j, j < m → cOf u j = cOf s (i + j)) (h1 : m < u.size → digB (cOf u m) = false) (h2 : i + m < s.size → digB (cOf s (i + m)) = false) :
  ∀ k d n, d + k = m → (∀ j, d ≤ j → j < m → digB (cOf u j) = true) → num M u d n = num M s (i + d) n
 | 0, d, n, hk, ha => by
  obtain rfl : d = m := by omega
  rw [num_stop (fun h => by rw [h1 h.1] at h; exact absurd h.2 (by simp)), num_stop (fun h => by rw [h2 h.1] at h; exact absurd h.2 (by simp))]
 | k + 1, d, n, hk, ha => by
  have e := hc d (by omega)
  have hd := ha d (Nat.le_refl _) (by omega)
  rw [← num_step (s := u) (i := d) (by omega) hd, ← num_step (s := s) (i := i + d) (by omega) (by rw [← e]; exact hd), e, Nat.add_assoc i d 1]
  exact num_eq hm hs hc h1 h2 k (d + 1) _ (by omega) (fun j hj hj' => ha j (by omega) hj')
theorem byteAt_cut (s : ByteArray) {i e : Nat} (he : e ≤ s.size) {j : Nat} (hj : j < e - i) : byteAt (s.extract i e) j = byteAt s (i + j) := by
 simp only [byteAt, ByteArray.data_extract, Array.toList_extract, List.extract_eq_take_drop, List.getD]
 rw [List.getElem?_take_of_lt (by omega), List.getElem?_drop]
theorem cOf_cut (s : ByteArray) {i e : Nat} (he : e ≤ s.size) {j : Nat} (hj : j < e - i) : cOf (s.extract i e) j = cOf s (i + j) := by unfold cOf; rw [byteAt_cut s he hj]
theorem cut_head (t x : ByteArray) : (t ++ x).extract 0 t.size = t := by
 apply ByteArray.ext
 rw [ByteArray.data_extract, ByteArray.data_append]
 apply Array.ext'
 rw [Array.toList_extract, Array.toList_append, List.extract_eq_take_drop]
 have l' : t.data.toList.length = t.size := by simp
 rw [List.drop_zero, Nat.sub_zero, List.take_append_of_le_length (by omega), List.take_of_length_le (by omega)]
def IsW (k : Int) (t : ByteArray) (n : Int) : Prop :=
  0 < t.size ∧ ¬ (cOf t 0 = 32 ∨ cOf t 0 = 9 ∨ cOf t 0 = 10) ∧ cOf t 0 ≠ 35 ∧ ∀ x : ByteArray, (x.size = 0 ∨ cOf x 0 = 32) → wordR (t ++ x) 0 = .ok k t n t.size
theorem isW_of {s : ByteArray} {i : Nat} (hi : i < s.size) {k : Int} {t : ByteArray} {n : Int} {nx : Nat} (h : wordR s i = .ok k t n nx) (hb : ¬ (cOf s i = 32 ∨ cOf s i = 9 ∨ cOf s i = 10)) (hn : cOf s i ≠ 35) : IsW k t n := by
 obtain ⟨o1, o2, o3, -, -, -, -, o4⟩ := wordR_ok hi h
 have hc : ∀ j, j < t.size → cOf t j = cOf s (i + j) := by
  intro j hj
  rw [o4, cOf_cut s o2 (by omega)]
 have hc0 : cOf t 0 = cOf s i := hc 0 (by omega)
 refine ⟨by omega, by rw [hc0]; exact hb, by rw [hc0]; exact hn, ?_⟩
 intro x hx
 have hcx : ∀ j, j < t.size → cOf (t ++ x) j = cOf s (i + j) := by
  intro j hj
  rw [cOf_app_left t x hj, hc j hj]
 have hsz : (t ++ x).size = t.size + x.size := size_app t x
 have hend : t.size < (t ++ x).size → cOf (t ++ x) t.size = 32 := by
  intro hlt
  have := cOf_app t x 0
  rw [Nat.add_zero] at this
  rw [this]
  rcases hx with h | h
  · omega
  · exact h
 have hcx0 : cOf (t ++ x) 0 = cOf s i := hcx 0 (by omega)
 have hnx : nx = i + t.size := by omega
 subst hnx
 clear o3
 by_cases h0 : cOf s i = 59
 · unfold wordR at h ⊢
   rw [if_pos h0] at h
   rw [hcx0, if_pos h0]
   injection h with h1 h2 h3 h4
   rw [h1, h3, show t.size = 0 + 1 by omega, h2]
 · by_cases h1 : letB (cOf s i) = true
   · unfold wordR at h ⊢
     rw [if_neg h0, if_pos h1] at h
     rw [hcx0, if_neg h0, if_pos h1]
     split at h
     · cases h
     · rename_i hlen
       injection h with e1 e2 e3 e4
       have hr : run alnumB (t ++ x) 0 = t.size := run_uniq (by omega) (by omega)
        (fun j _ hj => by rw [hcx j hj]; exact run_mem (i := i) (by omega) (by omega))
        (fun hlt => by rw [hend hlt]; rfl)
       rw [hr, if_neg (by omega), cut_head, e1, e3]
   · have hl : letB (cOf s i) = false := by simpa using h1
     rw [wr_num0 h0 hl rfl] at h
     rw [wr_num0 (by rw [hcx0]; exact h0) (by rw [hcx0]; exact hl) rfl, hcx0]
     obtain ⟨d, hd⟩ : ∃ d, d = (if cOf s i = 45 then 1 else 0) := ⟨_, rfl⟩
     have hf1 : (if cOf s i = 45 then i + 1 else i) = i + d := by rw [hd]; split <;> rfl
     have hf2 : (if cOf s i = 45 then 0 + 1 else 0) = d := by rw [hd]
     rw [hf1] at h
     rw [hf2]
     split at h
     · cases h
     · rename_i g1
       split at h
       · cases h
       · rename_i g2
         split at h
         · cases h
         · rename_i g3
           injection h with e1 e2 e3 e4
           have hge := run_ge digB s (i + d)
           have hr : run digB (t ++ x) d = t.size := run_uniq (by omega) (by omega)
            (fun j hj hj' => by rw [hcx j hj']; exact run_mem (i := i + d) (by omega) (by omega))
            (fun hlt => by rw [hend hlt]; rfl)
           have hv : num 1073741825 (t ++ x) d 0 = num 1073741825 s (i + d) 0 :=
            num_eq (m := t.size) (by omega) o2 hcx (fun hlt => by rw [hend hlt]; rfl)
             (fun hlt => by have := run_end (p := digB) (s := s) (i := i + d) (by omega); rwa [e4] at this)
             (t.size - d) d 0 (by omega) (fun j hj hj' => by rw [hcx j hj']; exact run_mem (i := i + d) (by omega) (by omega))
           rw [hr, hv, if_neg (by omega), if_neg g2, if_neg (fun hh => by rw [hend hh.1] at hh; exact absurd hh.2 (by decide)), cut_head, e1, e3]
def sp : ByteArray := ⟨#[32]⟩
def Chain (s : ByteArray) : Nat → List WV → Prop
  | _, [] => True
  | i, x :: r => i ≤ x.at_ ∧ x.at_ + x.text.size ≤ s.size ∧ s.extract x.at_ (x.at_ + x.text.size) = x.text ∧ IsW x.kind x.text x.num ∧ Chain s (x.at_ + x.text.size) r
theorem chain_le {s : ByteArray} {i j : Nat} (h : j ≤ i) : ∀ {l}, Chain s i l → Chain s j l
 | [], _ => trivial
 | x :: r, hc => ⟨Nat.le_trans h hc.1, hc.2⟩
theorem scan_chain (s : ByteArray) : ∀ f i acc, s.size - i < f → (∃ m, scanF s f i acc = (acc ++ m, 0, 0) ∧ Chain s i m) ∨ ((scanF s f i acc).2.1 ≠ 0 ∧ (scanF s f i acc).1 = [])
 | 0, i, acc, hf => by omega
 | f + 1, i, acc, hf => by
  unfold scanF
  by_cases hlt : i < s.size
  · rw [if_pos hlt]
    by_cases h1 : cOf s i = 32 ∨ cOf s i = 9 ∨ cOf s i = 10
    · rw [if_pos h1]
      rcases scan_chain s f (i + 1) acc (by omega) with ⟨m, hm, hc⟩ | h
      · exact .inl ⟨m, hm, chain_le (by omega) hc⟩
      · exact .inr h
    · rw [if_neg h1]
      by_cases h2 : cOf s i = 35
      · rw [if_pos h2]
        have hge : i + 1 ≤ run notLf s i := by rw [← run_step hlt (p := notLf) (by simp [notLf]; omega)]; exact run_ge _ _ _
        rcases scan_chain s f (run notLf s i) acc (by omega) with ⟨m, hm, hc⟩ | h
        · exact .inl ⟨m, hm, chain_le (by omega) hc⟩
        · exact .inr h
      · rw [if_neg h2]
        cases hw : wordR s i with
        | err e a => exact .inr ⟨by have := wordR_err hw; simp only; omega, rfl⟩
        | ok k t n nx =>
         have hok := wordR_ok hlt hw
         have hnx : nx = i + t.size := by omega
         subst hnx
         have hl : ByteArray.size t = t.size := rfl
         rcases scan_chain s f (i + t.size) (acc ++ [⟨k, t, n, i⟩]) (by omega) with ⟨m, hm, hc⟩ | h
         · refine .inl ⟨⟨k, t, n, i⟩ :: m, ?_, Nat.le_refl _, hok.2.1, hok.2.2.2.2.2.2.2.symm, isW_of hlt hw h1 h2, hc⟩
           simp only
           rw [hm]
           simp
         · exact .inr h
  · rw [if_neg hlt]; exact .inl ⟨[], by simp, trivial⟩
theorem scanR_chain (s : ByteArray) : (∃ m, scanR s = (m, 0, 0) ∧ Chain s 0 m ∧ s.size ≤ 20000) ∨ ((scanR s).2.1 ≠ 0 ∧ (scanR s).1 = []) := by
 unfold scanR
 by_cases hs : 20000 < s.size
 · rw [if_pos hs]; exact .inr ⟨by simp, rfl⟩
 · rw [if_neg hs]
   rcases scan_chain s (s.size + 1) 0 [] (by omega) with ⟨m, hm, hc⟩ | h
   · exact .inl ⟨m, by rw [hm]; simp, hc, by omega⟩
   · exact .inr h
theorem chain_isW {s : ByteArray} : ∀ {l i}, Chain s i l → ∀ x ∈ l, IsW x.kind x.text x.num
 | [], _, _, x, hx => by cases hx
 | y :: r, i, hc, x, hx => by
  rcases List.mem_cons.1 hx with rfl | h
  · exact hc.2.2.2.1
  · exact chain_isW hc.2.2.2.2 x h
theorem chain_get {s : ByteArray} : ∀ {l : List WV} {i k : Nat} {x : WV}, Chain s i l → l[k]? = some x → x.at_ + x.text.size ≤ s.size ∧ s.extract x.at_ (x.at_ + x.text.size) = x.text ∧ (k = 0 → i ≤ x.at_) ∧ (∀ y, l[k + 1]? = some y → x.at_ + x.text.size ≤ y.at_)
 | [], i, k, x, _, h => by simp at h
 | y :: r, i, 0, x, hc, h => by
  simp only [List.getElem?_cons_zero, Option.some.injEq] at h
  subst h
  obtain ⟨h1, h2, h3, h4, h5⟩ := hc
  refine ⟨h2, h3, fun _ => h1, fun z hz => ?_⟩
  simp only [List.getElem?_cons_succ] at hz
  exact (chain_get h5 hz).2.2.1 rfl
 | y :: r, i, k + 1, x, hc, h => by
  simp only [List.getElem?_cons_succ] at h
  obtain ⟨a, b, c, d⟩ := chain_get hc.2.2.2.2 h
  exact ⟨a, b, fun hk => absurd hk (by omega), fun z hz => d z (by simpa using hz)⟩
end Go.Proofs.YtbpcjpiaimdpnaaGreatDoor
namespace Go.Proofs.YtbpcjpiaimdpnaaGreatDoor
open Go Go.RowKit
set_option linter.unusedVariables false
theorem words_bd (s : ByteArray) : ∀ y ∈ (scanR s).1, y.text.size ≤ 20000 ∧ -1073741824 ≤ y.num ∧ y.num ≤ 1073741824 := by
 intro y hy
 rcases scanR_chain s with ⟨m, hm, hc, hs⟩ | ⟨_, hb⟩
 · rw [hm] at hy
   obtain ⟨k, hk⟩ := List.getElem?_of_mem hy
   have h1 := chain_get hc hk
   have h2 := chain_isW hc y hy
   have e : y.text ++ (⟨#[]⟩ : ByteArray) = y.text := by apply ByteArray.ext; rw [ByteArray.data_append]; simp
   have h3 := wordR_ok (s := y.text ++ ⟨#[]⟩) (i := 0) (by rw [e]; exact h2.1) (h2.2.2.2 ⟨#[]⟩ (.inl rfl))
   exact ⟨by omega, h3.2.2.2.1, h3.2.2.2.2.1⟩
 · rw [hb] at hy
   simp at hy
structure ItOk0 (x : IV) : Prop where
  iv : IvOk x
  ar : ArOk x
  nm : x.name.size ≤ 20000
  num : ∀ k ∈ x.keys, ∀ n ∈ k.vals, -1073741824 ≤ n ∧ n ≤ 1073741824
theorem itemF_name {e : Nat} {l : List WV} {x : IV} {r : List WV} (h : itemF e l = .ok x r) : x.name = ⟨#[]⟩ ∨ ∃ y ∈ l, x.name = y.text := by
 cases l with
 | nil => cases h
 | cons y l =>
  simp only [itemF] at h
  split at h
  · cases h
  · split at h
    · cases h
    · split at h
      · exact .inl (restF_two h).2.1
      · cases l with
        | nil => cases h
        | cons z l =>
         simp only at h
         split at h
         · cases h
         · exact .inr ⟨z, by simp, (restF_two h).2.1⟩
theorem parse_it0 (s : ByteArray) : (parseR s).1.length ≤ 400 ∧ ∀ x ∈ (parseR s).1, ItOk0 x := parseR_ok s ItOk0 fun l x r hl hm h => by
 have h2 := itemF_two h
 have h3 := itemF_len h
 have h4 := scanR_len s
 refine ⟨⟨by omega, fun k hk => by have := h2 k hk; omega⟩, itemF_ar h, ?_, ?_⟩
 · rcases itemF_name h with e | ⟨y, hy, e⟩
   · rw [e]; decide
   · rw [e]; exact (words_bd s y (hm y hy)).1
 · exact (itemF_mem (Q := fun k => ∀ n ∈ k.vals, -1073741824 ≤ n ∧ n ≤ 1073741824) (fun word y vs _ _ _ _ hv n hn => by
    obtain ⟨w, hw, e⟩ := hv n hn
    have := words_bd s w (hm w hw)
    omega) h).2
structure ItOk (x : IV) : Prop extends ItOk0 x where
  ww : x.word = t_table ∨ x.word = t_wall
theorem parse_it (s : ByteArray) (hw : ∀ x ∈ (parseR s).1, x.word = t_table ∨ x.word = t_wall) : (parseR s).1.length ≤ 400 ∧ ∀ x ∈ (parseR s).1, ItOk x := ⟨(parse_it0 s).1, fun x hx => ⟨(parse_it0 s).2 x hx, hw x hx⟩⟩
theorem ItOk.tr {x : IV} (h : ItOk x) : ∀ vs, getR x.keys k_trough = some vs → ∀ z ∈ vs, -1073741824 ≤ z ∧ z ≤ 1073741824 := fun vs hv z hz => by
 unfold getR at hv
 cases hf : x.keys.find? (fun p => decide (p.key = k_trough)) with
 | none => rw [hf] at hv; cases hv
 | some p =>
  rw [hf] at hv
  simp only [Option.map_some, Option.some.injEq] at hv
  subst hv
  exact h.num p (List.mem_of_find?_eq_some hf) z hz
attribute [local go_sem ↓] evalL getL64 setL64
attribute [local go_sem ↓] getL8 setL8
attribute [local go_sem ↓] getL1 getL0
theorem infWl : (Tryz.prog.info? 53).map (fun i => (i.zero, i.size, i.bytes)) = some (some (.agg #[.string ⟨#[]⟩, .int .i64 0, .int .i64 0, .int .i64 0, .int .i64 0, .int .i64 0, .int .i64 0, .int .i64 0, .int .i64 0, .int .i64 0, .int .i64 0, .int .i64 0, .int .i64 0]), 13, 112) := by kernel_rfl
set_option maxRecDepth 100000 in
set_option maxHeartbeats 8000000 in
theorem add_wall (w : World) (base tb : Nat) (t : Tb) (a : TbA) (x : IV) (B : Option Addr) (d : Nat) (hO : TbO w base tb t a) (hlt : tb < base) (hbw : base ≤ w.heap.size) (hK : ∃ w0 : World, KsAt w0 B x.keys ∧ Below w0.heap.size w0 w ∧ w0.heap.size ≤ tb) (ho : IvOk x) (hw : x.word = t_wall) (q : Nat) (wz : World) (hOz : TbO wz base tb t a) (hqz : wz.heap.size ≤ q) (hq : q < w.heap.size)
  (h1 : ∀ k ∈ [k_level, k_rest, k_grip, k_coil, k_switch, k_min, k_kick, k_size, k_into, k_limit], Has1 x k) (h2 : ∀ k ∈ [k_center, k_from, k_to, k_half, k_out, k_dir], Has2 x k) (hl : t.ws.length ≤ 1000000) :
  Calls Tryz.prog 40 #[.pointer (some ⟨tb, 0, none⟩), vOfX x B d] w (AddOut (putR t x) (!missAll x) base tb q w) := by
 have hzt := hOz.bx.lt
 have HOZ := hQ0 hOz
 clear hOz
 have HO := hQ0 hO
 have HK := hQ0 hK
 have H1 := hQ0 h1
 have H2 := hQ0 h2
 have HW := hQ0 hw
 clear hO hK h1 h2
 unfold vOfX
 have b_table : (x.word.toList == ([116, 97, 98, 108, 101] : List UInt8)) = false := by rw [hw]; kernel_rfl
 have b_wall : (x.word.toList == ([119, 97, 108, 108] : List UInt8)) = true := by rw [hw]; kernel_rfl
 have b_gate : (x.word.toList == ([103, 97, 116, 101] : List UInt8)) = false := by rw [hw]; kernel_rfl
 have b_target : (x.word.toList == ([116, 97, 114, 103, 101, 116] : List UInt8)) = false := by rw [hw]; kernel_rfl
 have b_sling : (x.word.toList == ([115, 108, 105, 110, 103] : List UInt8)) = false := by rw [hw]; kernel_rfl
 have b_arc : (x.word.toList == ([97, 114, 99] : List UInt8)) = false := by rw [hw]; kernel_rfl
 have b_post : (x.word.toList == ([112, 111, 115, 116] : List UInt8)) = false := by rw [hw]; kernel_rfl
 have b_flipper : (x.word.toList == ([102, 108, 105, 112, 112, 101, 114] : List UInt8)) = false := by rw [hw]; kernel_rfl
 have b_zone : (x.word.toList == ([122, 111, 110, 101] : List UInt8)) = false := by rw [hw]; kernel_rfl
 have b_saucer : (x.word.toList == ([115, 97, 117, 99, 101, 114] : List UInt8)) = false := by rw [hw]; kernel_rfl
 have b_lane : (x.word.toList == ([108, 97, 110, 101] : List UInt8)) = false := by rw [hw]; kernel_rfl
 have b_ramp : (x.word.toList == ([114, 97, 109, 112] : List UInt8)) = false := by rw [hw]; kernel_rfl
 have b_drain : (x.word.toList == ([100, 114, 97, 105, 110] : List UInt8)) = false := by rw [hw]; kernel_rfl
 have b_launcher : (x.word.toList == ([108, 97, 117, 110, 99, 104, 101, 114] : List UInt8)) = false := by rw [hw]; kernel_rfl
 clear hw
 go_enter Tryz.func40, Tryz.ntmps40; (try simp only [List.append_eq, List.cons_append, List.nil_append])
 go_upto_region 2 with (fail)
 (refine pin_eqT (fun w1 hE_w1 => ?_))
 obtain ⟨TC, hTC⟩ : ∃ z : List Value, z = t.cells a := ⟨_, rfl⟩
 have HTC := hQ0 hTC
 have HX1 : Hid (BoxAt w1 w.heap.size [.string x.word, .string x.name, .slice B x.keys.length d, .int .i64 x.at_]) := hQ0 (by rw [hE_w1]; exact (BoxAt.new _ _ _).alloc _)
 have HT1 : Hid (BoxAt w1 tb TC) := hQ0 (by rw [hE_w1, hTC]; exact (HO.out.bx.alloc _).alloc _)
 have HB1 : Hid (Below w.heap.size w w1) := hQ0 (by rw [hE_w1]; ((with_reducible (repeat (first | exact bR _ _ | apply bS | apply bA | apply bD | refine bT ?_ (by assumption) ?_ | refine bO (by assumption) ?_ ?_))) <;> (first | omega | (simp <;> omega))))
 obtain ⟨vb, hvb⟩ : ∃ z, z = w.heap.size + 1 := ⟨_, rfl⟩
 have HV1 : Hid (VAt w1 vb x B d false) := hQ0 (by
  obtain ⟨w0, q1, q2, q3⟩ := HK.out
  rw [hE_w1, hvb]
  refine ⟨?_, w0, q1, (q2.alloc (by have := q2.size; omega) _).alloc (by have := q2.size; simp; omega) _, by have := q2.size; omega⟩
  have := BoxAt.new (w.alloc (.cells #[.string x.word, .string x.name, .slice B x.keys.length d, .int .i64 x.at_] 97)) [.string x.word, .string x.name, .slice B x.keys.length d, .int .i64 x.at_, .bool false] 163
  have hsz : (w.alloc (.cells #[.string x.word, .string x.name, .slice B x.keys.length d, .int .i64 x.at_] 97)).heap.size = w.heap.size + 1 := by simp
  rw [hsz] at this
  exact this)
 have hvw : w.heap.size < vb := by omega
 rw [← hvb]
 clear hE_w1 hTC hvb
 have x0 := HX1.out.c 0 (.string x.word) rfl
 have hltX := HX1.out.lt
 go_upto_region 12 with (first | (go_at_call 94; refine (vbounce_any _ _ x B d _ HV1.out ho (H1.out _ (by simp)) (H1.out _ (by simp))).mono ?_; rintro e w2 ⟨rfl, hb2⟩; have HV2 := hQ0 (HV1.out.below hb2); have HX2 := hQ0 (HX1.out.below hb2 HX1.out.lt)) | (go_at_call 95; refine (vports_any _ _ x B d _ HV2.out ho (H1.out _ (by simp)) (H1.out _ (by simp))).mono ?_; rintro e w3 ⟨rfl, hb3⟩; have HV3 := hQ0 (HV2.out.below hb3); have HX3 := hQ0 (HX2.out.below hb3 HX2.out.lt)) | (go_at_call 96; refine (or_any _ _ x B d _ k_min 0 HV3.out ho (H1.out _ (by simp)).ne).mono ?_; rintro e w4 ⟨rfl, hb4⟩; have HV4 := hQ0 (HV3.out.below hb4); have HX4 := hQ0 (HX3.out.below hb4 HX3.out.lt); have x04 := HX4.out.c 0 (.string x.word) rfl))
 have hS4 : Below w.heap.size w w4 ∧ BoxAt w4 w.heap.size [.string x.word, .string x.name, .slice B x.keys.length d, .int .i64 x.at_] ∧ BoxAt w4 tb TC := ⟨((HB1.out.trans (hb2.mono HB1.out.size)).trans (hb3.mono (by have := HB1.out.size; have := hb2.size; omega))).trans (hb4.mono (by have := HB1.out.size; have := hb2.size; have := hb3.size; omega)), HX4.out, ((HT1.out.below hb2 HT1.out.lt).below hb3 (by have := HT1.out.lt; have := hb2.size; omega)).below hb4 (by have := HT1.out.lt; have := hb2.size; have := hb3.size; omega)⟩
 have hV_ := HV4.out
 have hBw_ : Below w.heap.size w w4 := hS4.1
 have hS4 := And.intro (BelQ.of (tb := tb) (q := q) hS4.1 (by omega) hq) hS4.2
 clear HV1 HV2 HV3 HV4 HX1 HX2 HX3 HX4 HT1 hb2 hb3 hb4 x0 x04 hltX HB1
 have HS4 := hQ0 hS4
 clear hS4
 have hVd_ := hV_.below ((Below.refl w4.heap.size w4).drew)
 clear hV_
 have hV_ := hVd_
 clear hVd_
 have hBd_ := hBw_.drew
 clear hBw_
 have hBw_ := hBd_
 clear hBd_
 have hS_ : (fun W_ => BelQ tb q w W_ ∧ BoxAt W_ w.heap.size [.string x.word, .string x.name, .slice B x.keys.length d, .int .i64 x.at_] ∧ BoxAt W_ tb TC) w4.drew := ⟨HS4.out.1.drew, HS4.out.2.1.drew, HS4.out.2.2.drew⟩
 refine wp_region_N (fun W_ => BelQ tb q w W_ ∧ BoxAt W_ w.heap.size [.string x.word, .string x.name, .slice B x.keys.length d, .int .i64 x.at_] ∧ BoxAt W_ tb TC) 26 [26, 27, 28] (by kernel_rfl) (by kernel_rfl) (by kernel_rfl) (by kernel_rfl) ?_
 intro hT_ hD_
 generalize w4.drew = wd_ at hS_ hV_ hBw_ ⊢
 apply wpN_maybe (i := 0) hT_ hD_ rfl (by kernel_rfl) true (by exact rfl)
 (case h => intro _; intro W_ hW_; have hcW_ := (bcellW hW_.1.b).1; go_simp; first | done | exact rfl); (case hQ => exact fun _ _ _ h => h); (case hS => exact hS_)
 intro hD2_; clear hD_; have hD_ := hD2_; clear hD2_; intro K hK; (try simp only [opt_true]); go_simp; refine hK _ _ ?_; clear hK K
 apply wpN_maybe (i := 1) hT_ hD_ rfl (by kernel_rfl) true (by exact rfl)
 (case h => intro _; intro W_ hW_; have hcW_ := (bcellW hW_.1.b).1; go_simp; first | done | exact rfl); (case hQ => exact fun _ _ _ h => h); (case hS => exact hS_)
 intro hD2_; clear hD_; have hD_ := hD2_; clear hD2_; intro K hK; (try simp only [opt_true]); go_simp; refine hK _ _ ?_; clear hK K
 apply wpN_maybe (i := 2) hT_ hD_ rfl (by kernel_rfl) true (by exact rfl)
 (case h => intro _; intro W_ hW_; have hcW_ := (bcellW hW_.1.b).1; go_simp; first | done | exact rfl); (case hQ => exact fun _ _ _ h => h); (case hS => exact hS_)
 intro hD2_; clear hD_; have hD_ := hD2_; clear hD2_; intro K hK; (try simp only [opt_true]); go_simp; refine hK _ _ ?_; clear hK K
 apply wpN_maybe (i := 3) hT_ hD_ rfl (by kernel_rfl) true (by exact rfl)
 (case h => intro _; intro W_ hW_; have hcW_ := (bcellW hW_.1.b).1; go_simp; first | done | exact rfl); (case hQ => exact fun _ _ _ h => h); (case hS => exact hS_)
 intro hD2_; clear hD_; have hD_ := hD2_; clear hD2_; intro K hK; (try simp only [opt_true]); go_simp; refine hK _ _ ?_; clear hK K
 apply wpN_maybe (i := 4) hT_ hD_ rfl (by kernel_rfl) true (by exact rfl)
 (case h => intro _; intro W_ hW_; have hY_ := hW_.2.2; have y0_ := hY_.c 8 (.slice a.ws t.ws.length a.wsc) ((by rw [HTC.out]; rfl)); go_simp; first | done | exact rfl); (case hQ => exact fun _ _ _ h => h); (case hS => exact hS_)
 intro hD2_; clear hD_; have hD_ := hD2_; clear hD2_; intro K hK; (try simp only [opt_true]); go_simp; refine hK _ _ ?_; clear hK K
 apply wpN_maybe (i := 5) hT_ hD_ rfl (by kernel_rfl) true (by exact rfl)
 (case h => intro _; intro W_ hW_; have hcW_ := (bcellW hW_.1.b).1; go_simp; first | done | exact rfl); (case hQ => exact fun _ _ _ h => h); (case hS => exact hS_)
 intro hD2_; clear hD_; have hD_ := hD2_; clear hD2_; intro K hK; (try simp only [opt_true]); go_simp; refine hK _ _ ?_; clear hK K
 apply wpN_maybe (i := 6) hT_ hD_ rfl (by kernel_rfl) true (by exact rfl)
 (case h => intro _; intro W_ hW_; have hY_ := hW_.2.1; have y0_ := hY_.c 1 (.string x.name) (rfl); go_simp; first | done | exact rfl); (case hQ => exact fun _ _ _ h => h); (case hS => exact hS_)
 intro hD2_; clear hD_; have hD_ := hD2_; clear hD2_; intro K hK; (try simp only [opt_true]); go_simp; refine hK _ _ ?_; clear hK K
 apply wpN_maybe (i := 7) hT_ hD_ rfl (by kernel_rfl) true (by exact rfl)
 (case h => intro _; intro W_ hW_; have hcW_ := (bcellW hW_.1.b).1; go_simp; first | done | exact rfl); (case hQ => exact fun _ _ _ h => h); (case hS => exact hS_)
 intro hD2_; clear hD_; have hD_ := hD2_; clear hD2_; intro K hK; (try simp only [opt_true]); go_simp; refine hK _ _ ?_; clear hK K
 apply wpN_maybe (i := 8) hT_ hD_ rfl (by kernel_rfl) true (by exact rfl)
 (case h => intro _; intro W_ hW_; have hY_ := hW_.2.1; have y0_ := hY_.c 0 (.string x.word) (rfl); go_simp; first | done | exact rfl); (case hQ => exact fun _ _ _ h => h); (case hS => exact hS_)
 intro hD2_; clear hD_; have hD_ := hD2_; clear hD2_; intro K hK; (try simp only [opt_true]); go_simp; refine hK _ _ ?_; clear hK K
 apply wpN_maybe (i := 10) hT_ hD_ rfl (by kernel_rfl) true (by exact rfl)
 (case h => intro _; intro W_ hW_; have hcW_ := (bcellW hW_.1.b).1; go_simp; first | done | exact rfl); (case hQ => exact fun _ _ _ h => h); (case hS => exact hS_)
 intro hD2_; clear hD_; have hD_ := hD2_; clear hD2_; intro K hK; (try simp only [opt_true]); go_simp; refine hK _ _ ?_; clear hK K
 apply wpN_maybe (i := 12) hT_ hD_ rfl (by kernel_rfl) true (by exact rfl)
 (case h => intro _; intro W_ hW_; have hcW_ := (bcellW hW_.1.b).1; go_simp; first | done | exact rfl); (case hQ => exact fun _ _ _ h => h); (case hS => exact hS_)
 intro hD2_; clear hD_; have hD_ := hD2_; clear hD2_; intro K hK; (try simp only [opt_true]); go_simp; refine hK _ _ ?_; clear hK K
 apply wpN_maybe (i := 14) hT_ hD_ rfl (by kernel_rfl) true (by exact rfl)
 (case h => intro _; intro W_ hW_; have hcW_ := (bcellW hW_.1.b).1; go_simp; first | done | exact rfl); (case hQ => exact fun _ _ _ h => h); (case hS => exact hS_)
 intro hD2_; clear hD_; have hD_ := hD2_; clear hD2_; intro K hK; (try simp only [opt_true]); go_simp; refine hK _ _ ?_; clear hK K
 apply wpN_maybe (i := 16) hT_ hD_ rfl (by kernel_rfl) true (by exact rfl)
 (case h => intro _; intro W_ hW_; have hcW_ := (bcellW hW_.1.b).1; go_simp; first | done | exact rfl); (case hQ => exact fun _ _ _ h => h); (case hS => exact hS_)
 intro hD2_; clear hD_; have hD_ := hD2_; clear hD2_; intro K hK; (try simp only [opt_true]); go_simp; refine hK _ _ ?_; clear hK K
 apply wpN_maybe (i := 17) hT_ hD_ rfl (by kernel_rfl) true (by exact rfl)
 (case h => intro _; intro W_ hW_; have hcW_ := (bcellW hW_.1.b).1; go_simp; first | done | exact rfl); (case hQ => exact fun _ _ _ h => h); (case hS => exact hS_)
 intro hD2_; clear hD_; have hD_ := hD2_; clear hD2_; intro K hK; (try simp only [opt_true]); go_simp; refine hK _ _ ?_; clear hK K
 apply wpN_maybe (i := 18) hT_ hD_ rfl (by kernel_rfl) true (by exact rfl)
 (case h => intro _; intro W_ hW_; have hcW_ := (bcellW hW_.1.b).1; go_simp; first | done | exact rfl); (case hQ => exact fun _ _ _ h => h); (case hS => exact hS_)
 intro hD2_; clear hD_; have hD_ := hD2_; clear hD2_; intro K hK; (try simp only [opt_true]); go_simp; refine hK _ _ ?_; clear hK K
 apply wpN_maybe (i := 20) hT_ hD_ rfl (by kernel_rfl) true (by exact rfl)
 (case h => intro _; intro W_ hW_; have hcW_ := (bcellW hW_.1.b).1; go_simp; first | done | exact rfl); (case hQ => exact fun _ _ _ h => h); (case hS => exact hS_)
 intro hD2_; clear hD_; have hD_ := hD2_; clear hD2_; intro K hK; (try simp only [opt_true]); go_simp; refine hK _ _ ?_; clear hK K
 apply wpN_maybe (i := 21) hT_ hD_ rfl (by kernel_rfl) true (by exact rfl)
 (case h => intro _; intro W_ hW_; have hcW_ := (bcellW hW_.1.b).1; go_simp; first | done | exact rfl); (case hQ => exact fun _ _ _ h => h); (case hS => exact hS_)
 intro hD2_; clear hD_; have hD_ := hD2_; clear hD2_; intro K hK; (try simp only [opt_true]); go_simp; refine hK _ _ ?_; clear hK K
 apply wpN_maybe (i := 22) hT_ hD_ rfl (by kernel_rfl) true (by exact rfl)
 (case h => intro _; intro W_ hW_; have hcW_ := (bcellW hW_.1.b).1; go_simp; first | done | exact rfl); (case hQ => exact fun _ _ _ h => h); (case hS => exact hS_)
 intro hD2_; clear hD_; have hD_ := hD2_; clear hD2_; intro K hK; (try simp only [opt_true]); go_simp; refine hK _ _ ?_; clear hK K
 refine wpN_one (i := 9) hD_ rfl (by kernel_rfl) rfl ?_
 intro hD2_; clear hD_; have hD_ := hD2_; clear hD2_; intro K hK; generalize hA_ : Act.mk _ _ = A_; (have v49_ := (congrArg (fun z_ : Act => z_.eval (.tmp 49)) hA_.symm).trans (evalL _ _ 49); simp only [getL64, getL8, getL1, getL0, opt_true, Bool.not_false] at v49_); have HA_ := hQ0 hA_; clear hA_; have vc_ : ∀ v_, Act.eval A_ (.const v_) = v_ := (fun _ => rfl); have vf_ : ∀ f_, Act.eval A_ (.func f_) = .func (.func f_) #[] #[] := (fun _ => rfl); generalize Act.eval A_ = ev_ at vc_ vf_ v49_ ⊢; go_simp
 go_at_call 98; refine (kind_any x.word _).mono ?_; rintro e w_ ⟨rfl, hb_⟩; clear vc_ vf_ v49_; have hS2_ : (fun W_ => BelQ tb q w W_ ∧ BoxAt W_ w.heap.size [.string x.word, .string x.name, .slice B x.keys.length d, .int .i64 x.at_] ∧ BoxAt W_ tb TC) w_ := ⟨hS_.1.call hb_ (by have := hBw_.size; omega) (by have := hBw_.size; omega), hS_.2.1.below hb_ hS_.2.1.lt, hS_.2.2.below hb_ hS_.2.2.lt⟩; have hB2_ := hBw_.trans (hb_.mono hBw_.size); clear hBw_; have hBw_ := hB2_; clear hB2_; have hV2_ := hV_.below hb_; clear hV_; have hV_ := hV2_; clear hV2_ hb_; refine ⟨hS2_, ?_⟩; clear hS_; have hS_ := hS2_; clear hS2_
 have hA2_ := HA_.out; clear HA_; subst hA2_; go_simp; refine hK _ _ ?_; clear hK K
 refine wpN_one (i := 11) hD_ rfl (by kernel_rfl) rfl ?_
 intro hD2_; clear hD_; have hD_ := hD2_; clear hD2_; intro K hK; generalize hA_ : Act.mk _ _ = A_; (have v51_ := (congrArg (fun z_ : Act => z_.eval (.tmp 51)) hA_.symm).trans (evalL _ _ 51); simp only [getL64, getL8, getL1, getL0, opt_true, Bool.not_false] at v51_); have HA_ := hQ0 hA_; clear hA_; have vc_ : ∀ v_, Act.eval A_ (.const v_) = v_ := (fun _ => rfl); have vf_ : ∀ f_, Act.eval A_ (.func f_) = .func (.func f_) #[] #[] := (fun _ => rfl); generalize Act.eval A_ = ev_ at vc_ vf_ v51_ ⊢; go_simp
 go_at_call 99; refine (vlevel_any _ _ x B d _ hV_ ho (H1.out _ (by simp))).mono ?_; rintro e w_ ⟨rfl, hb_⟩; clear vc_ vf_ v51_; have hS2_ : (fun W_ => BelQ tb q w W_ ∧ BoxAt W_ w.heap.size [.string x.word, .string x.name, .slice B x.keys.length d, .int .i64 x.at_] ∧ BoxAt W_ tb TC) w_ := ⟨hS_.1.call hb_ (by have := hBw_.size; omega) (by have := hBw_.size; omega), hS_.2.1.below hb_ hS_.2.1.lt, hS_.2.2.below hb_ hS_.2.2.lt⟩; have hB2_ := hBw_.trans (hb_.mono hBw_.size); clear hBw_; have hBw_ := hB2_; clear hB2_; have hV2_ := hV_.below hb_; clear hV_; have hV_ := hV2_; clear hV2_ hb_; refine ⟨hS2_, ?_⟩; clear hS_; have hS_ := hS2_; clear hS2_
 have hA2_ := HA_.out; clear HA_; subst hA2_; go_simp; refine hK _ _ ?_; clear hK K
 refine wpN_one (i := 13) hD_ rfl (by kernel_rfl) rfl ?_
 intro hD2_; clear hD_; have hD_ := hD2_; clear hD2_; intro K hK; generalize hA_ : Act.mk _ _ = A_; (have v53_ := (congrArg (fun z_ : Act => z_.eval (.tmp 53)) hA_.symm).trans (evalL _ _ 53); simp only [getL64, getL8, getL1, getL0, opt_true, Bool.not_false] at v53_); have HA_ := hQ0 hA_; clear hA_; have vc_ : ∀ v_, Act.eval A_ (.const v_) = v_ := (fun _ => rfl); have vf_ : ∀ f_, Act.eval A_ (.func f_) = .func (.func f_) #[] #[] := (fun _ => rfl); generalize Act.eval A_ = ev_ at vc_ vf_ v53_ ⊢; go_simp
 go_at_call 100; refine (vec_any _ _ x B d _ k_from hV_ ho (H2.out _ (by simp))).mono ?_; rintro e w_ ⟨rfl, hbt_, hV2_⟩; clear vc_ vf_ v53_; have hS2_ : (fun W_ => BelQ tb q w W_ ∧ BoxAt W_ w.heap.size [.string x.word, .string x.name, .slice B x.keys.length d, .int .i64 x.at_] ∧ BoxAt W_ tb TC) w_ := ⟨hS_.1.call (hbt_.toBelow (B := w.heap.size) (by omega) hBw_.size) (by omega) hq, hS_.2.1.block hbt_.size (hbt_.block _ hS_.2.1.lt (by omega)), hS_.2.2.block hbt_.size (hbt_.block _ hS_.2.2.lt (by omega))⟩; have hB2_ := hBw_.trans (hbt_.toBelow (by omega) hBw_.size); clear hBw_; have hBw_ := hB2_; clear hB2_; clear hV_; have hV_ := hV2_; clear hV2_ hbt_; refine ⟨hS2_, ?_⟩; clear hS_; have hS_ := hS2_; clear hS2_
 have hA2_ := HA_.out; clear HA_; subst hA2_; go_simp; refine hK _ _ ?_; clear hK K
 refine wpN_one (i := 15) hD_ rfl (by kernel_rfl) rfl ?_
 intro hD2_; clear hD_; have hD_ := hD2_; clear hD2_; intro K hK; generalize hA_ : Act.mk _ _ = A_; (have v55_ := (congrArg (fun z_ : Act => z_.eval (.tmp 55)) hA_.symm).trans (evalL _ _ 55); simp only [getL64, getL8, getL1, getL0, opt_true, Bool.not_false] at v55_); have HA_ := hQ0 hA_; clear hA_; have vc_ : ∀ v_, Act.eval A_ (.const v_) = v_ := (fun _ => rfl); have vf_ : ∀ f_, Act.eval A_ (.func f_) = .func (.func f_) #[] #[] := (fun _ => rfl); generalize Act.eval A_ = ev_ at vc_ vf_ v55_ ⊢; go_simp
 go_at_call 100; refine (vec_any _ _ x B d _ k_to hV_ ho (H2.out _ (by simp))).mono ?_; rintro e w_ ⟨rfl, hbt_, hV2_⟩; clear vc_ vf_ v55_; have hS2_ : (fun W_ => BelQ tb q w W_ ∧ BoxAt W_ w.heap.size [.string x.word, .string x.name, .slice B x.keys.length d, .int .i64 x.at_] ∧ BoxAt W_ tb TC) w_ := ⟨hS_.1.call (hbt_.toBelow (B := w.heap.size) (by omega) hBw_.size) (by omega) hq, hS_.2.1.block hbt_.size (hbt_.block _ hS_.2.1.lt (by omega)), hS_.2.2.block hbt_.size (hbt_.block _ hS_.2.2.lt (by omega))⟩; have hB2_ := hBw_.trans (hbt_.toBelow (by omega) hBw_.size); clear hBw_; have hBw_ := hB2_; clear hB2_; clear hV_; have hV_ := hV2_; clear hV2_ hbt_; refine ⟨hS2_, ?_⟩; clear hS_; have hS_ := hS2_; clear hS2_
 have hA2_ := HA_.out; clear HA_; subst hA2_; go_simp; refine hK _ _ ?_; clear hK K
 refine wpN_one (i := 19) hD_ rfl (by kernel_rfl) rfl ?_
 intro hD2_; clear hD_; have hD_ := hD2_; clear hD2_; intro K hK; generalize hA_ : Act.mk _ _ = A_; (have v59_ := (congrArg (fun z_ : Act => z_.eval (.tmp 59)) hA_.symm).trans (evalL _ _ 59); simp only [getL64, getL8, getL1, getL0, opt_true, Bool.not_false] at v59_); have HA_ := hQ0 hA_; clear hA_; have vc_ : ∀ v_, Act.eval A_ (.const v_) = v_ := (fun _ => rfl); have vf_ : ∀ f_, Act.eval A_ (.func f_) = .func (.func f_) #[] #[] := (fun _ => rfl); generalize Act.eval A_ = ev_ at vc_ vf_ v59_ ⊢; go_simp
 go_at_call 96; refine (or_any _ _ x B d _ k_kick 0 hV_ ho (H1.out _ (by simp)).ne).mono ?_; rintro e w_ ⟨rfl, hb_⟩; clear vc_ vf_ v59_; have hS2_ : (fun W_ => BelQ tb q w W_ ∧ BoxAt W_ w.heap.size [.string x.word, .string x.name, .slice B x.keys.length d, .int .i64 x.at_] ∧ BoxAt W_ tb TC) w_ := ⟨hS_.1.call hb_ (by have := hBw_.size; omega) (by have := hBw_.size; omega), hS_.2.1.below hb_ hS_.2.1.lt, hS_.2.2.below hb_ hS_.2.2.lt⟩; have hB2_ := hBw_.trans (hb_.mono hBw_.size); clear hBw_; have hBw_ := hB2_; clear hB2_; have hV2_ := hV_.below hb_; clear hV_; have hV_ := hV2_; clear hV2_ hb_; refine ⟨hS2_, ?_⟩; clear hS_; have hS_ := hS2_; clear hS2_
 have hA2_ := HA_.out; clear HA_; subst hA2_; go_simp; refine hK _ _ ?_; clear hK K
 apply wpN_maybe (i := 23) hT_ hD_ rfl (by kernel_rfl) true (by exact rfl)
 (case h => intro _; intro W_ hW_; have hcW_ := (bcellW hW_.1.b).1; go_simp; first | done | exact rfl); (case hQ => exact fun _ _ _ h => h); (case hS => exact hS_)
 intro hD2_; clear hD_; have hD_ := hD2_; clear hD2_; intro K hK; (try simp only [opt_true]); go_simp; refine hK _ _ ?_; clear hK K
 obtain ⟨wq, rfl⟩ : ∃ z, z = w_ := ⟨_, rfl⟩
 apply wpN_freshm (S := fun W_ => BelQ tb q w W_ ∧ BoxAt W_ w.heap.size [.string x.word, .string x.name, .slice B x.keys.length d, .int .i64 x.at_] ∧ BoxAt W_ tb TC) (i := 24) hD_ rfl (by kernel_rfl) true (by exact rfl)
 (case h => intro _; generalize hev_ : Act.eval _ = ev_; (have v64_ := (congrFun hev_.symm (.tmp 64)).trans (evalL _ _ 64); simp only [getL64, getL8, getL1, getL0, opt_true, Bool.not_false] at v64_); have vc_ : ∀ v_, ev_ (.const v_) = v_ := (fun _ => by rw [← hev_]; rfl); clear hev_; go_simp; first | done | exact rfl | exact ⟨rfl, rfl⟩); (case hS => exact hS_); (case hS' => exact ⟨hS_.1.alloc (by have := hBw_.size; omega) (by have := hBw_.size; omega) _, hS_.2.1.alloc _, hS_.2.2.alloc _⟩)
 intro hD2_; clear hD_; have hD_ := hD2_; clear hD2_; intro K hK w_ hS2_ hw0_; have hw_ := hQ0 hw0_; clear hw0_; go_simp; refine hK _ _ ?_; clear hK K hS_; have hS_ := hS2_; clear hS2_
 have hE_ := hw_.out rfl
 have hR_ : BoxAt w_ wq.heap.size (mkWl x).cells := by rw [hE_]; exact BoxAt.new wq (mkWl x).cells _
 have hBq : Below w.heap.size w w_ := by rw [hE_]; exact hBw_.alloc hBw_.size _
 have hVq := hV_.below (w' := w_) (by rw [hE_]; exact (Below.refl _ _).alloc (Nat.le_refl _) _)
 clear hE_ hw_ hBw_ hV_
 refine wpN_one (i := 25) hD_ rfl (by kernel_rfl) rfl ?_
 intro hD2_; clear hD_; have hD_ := hD2_; clear hD2_; intro K hK
 have HOq := HO.out.below hBq (Nat.le_refl _)
 have hrow : ∀ k, (Value.slice a.ws t.ws.length a.wsc).ownBlock = some k → base ≤ k ∧ k < w.heap.size ∧ q ≠ k := fun k hk => by
  have r1 := World.ownsRow.lt HO.out.ws k hk
  have r2 := World.ownsRow.lt HOZ.out.ws k hk
  omega
 refine upon_append_one (.tmp 45) (.tmp 65) 25 53 _ 13 _ rfl Tryz.underlying25 infWl rfl (by decide) (by decide) base (.slice a.ws t.ws.length a.wsc) t.ws.length (t.ws.flatMap Wl.cells) (mkWl x).cells ((evalL _ _ 45).trans (by simp only [getL64, getL8, getL1, getL0, opt_true])) HOq.ws wq.heap.size 1 ((evalL _ _ 65).trans (by simp only [getL64, getL8, getL1, getL0, opt_true])) rfl hR_.c (by simp [mkWl, Wl.cells, Value.oneCell']) hl (by have := hBq.size; omega) ?_
 intro v' w' hown' hgr' hbk'
 obtain ⟨A', c', rfl, hput⟩ := HOq.put_ws hlt (mkWl x) hown' hgr'
 have hS2_ : (fun W_ => BelQ tb q w W_ ∧ BoxAt W_ w.heap.size [.string x.word, .string x.name, .slice B x.keys.length d, .int .i64 x.at_] ∧ BoxAt W_ tb TC) w' := ⟨hS_.1.grown hgr' (fun k hk => by have := hrow k hk; omega) (by have := hBq.size; omega) (by have := hBq.size; omega) (fun k hk => by have := hrow k hk; omega), boxAt_grown hS_.2.1 hgr' (fun k hk e => by have := hrow k hk; omega), boxAt_grown hS_.2.2 hgr' (fun k hk e => by have := hrow k hk; omega)⟩
 have hV2_ : VAt w' vb x B d (missR x k_to (missR x k_from false)) := by
  obtain ⟨w0, q1, q2, q3⟩ := HK.out
  have hz0 := q2.size
  have hzq := hBq.size
  exact ⟨boxAt_grown hVq.bx hgr' (fun k hk e => by have := hrow k hk; omega), w0, q1, (q2.trans (hBq.mono (by omega))).trans (below_grown hgr' (fun k hk => by have := hrow k hk; omega) (by omega)), by omega⟩
 refine ⟨hS2_, ?_⟩
 clear hS_ hVq hR_ hown' hbk'
 have hS_ := hS2_
 clear hS2_
 go_simp
 refine hK _ _ ?_
 clear hK K
 refine wpZ_nil (by kernel_rfl) ?_
 (try simp only [List.filterMap_cons, List.filterMap_nil, List.getElem?_cons_succ, List.getElem?_cons_zero])
 (try go_simp)
 have hS9 := hS_
 have hT9 := hS9.2.2
 have hc9 := hT9.c 8 (.slice a.ws t.ws.length a.wsc) (by rw [HTC.out]; rfl)
 have hz9 := hT9.fz 8
 have hlt9 := hT9.lt
 have v9 := hV2_.bx.c 4 (.bool (missR x k_to (missR x k_from false))) rfl
 have hltV := hV2_.bx.lt
 have hne9 : tb ≠ vb := by omega
 obtain ⟨M, hM⟩ : ∃ z, z = (missR x k_to (missR x k_from false)) := ⟨_, rfl⟩
 rw [← hM] at v9
 have HM : Hid (missAll x = M) := hQ0 (by rw [hM]; unfold missAll missR; rw [HW.out, show reqR t_wall = [k_from, k_to] from by kernel_rfl]; simp [Bool.or_assoc, Bool.or_comm, Bool.or_left_comm])
 have HP := hQ0 hput
 have HB9 : Hid (BelQ tb q w w') := hQ0 hS9.1
 clear hM hput hS_ hS9
 have HT9 := hQ0 hT9
 clear hT9
 go_wp2_with fail
 go_ret
 refine ⟨(show _ = Ending.returned (.bool (!M)) from rfl).trans (by rw [HM.out]), HB9.out.set (by simp) (by simp only; omega), { a with ws := A', wsc := c' }, ?_⟩
 have e : putR t x = { t with ws := t.ws ++ [mkWl x] } := by unfold putR; rw [HW.out]; kernel_rfl
 rw [e]
 exact HP.out
end Go.Proofs.YtbpcjpiaimdpnaaGreatDoor
namespace Go.Proofs.YtbpcjpiaimdpnaaGreatDoor
open Go Go.RowKit
theorem infAc : (Tryz.prog.info? 76).map (fun i => (i.zero, i.size, i.bytes)) = some (some (.agg #[.string ⟨#[]⟩, .int .i64 0, .int .i64 0, .int .i64 0, .int .i64 0, .int .i64 0, .int .i64 0, .int .i64 0, .int .i64 0, .int .i64 0, .int .i64 0, .int .i64 0]), 12, 104) := by kernel_rfl
theorem infPs : (Tryz.prog.info? 55).map (fun i => (i.zero, i.size, i.bytes)) = some (some (.agg #[.string ⟨#[]⟩, .int .i64 0, .int .i64 0, .int .i64 0, .int .i64 0, .int .i64 0, .int .i64 0, .int .i64 0, .int .i64 0, .int .i64 0, .int .i64 0]), 11, 96) := by kernel_rfl
theorem infFl : (Tryz.prog.info? 79).map (fun i => (i.zero, i.size, i.bytes)) = some (some (.agg #[.string ⟨#[]⟩, .int .i64 0, .int .i64 0, .int .i64 0, .int .i64 0, .bool false, .int .i64 0, .int .i64 0, .int .i64 0, .int .i64 0, .int .i64 0, .int .i64 0, .int .i64 0, .int .i64 0, .int .i64 0]), 15, 128) := by kernel_rfl
theorem infZn : (Tryz.prog.info? 59).map (fun i => (i.zero, i.size, i.bytes)) = some (some (.agg #[.string ⟨#[]⟩, .int .i64 0, .int .i64 0, .int .i64 0, .int .i64 0, .int .i64 0, .int .i64 0, .int .i64 0, .int .i64 0]), 9, 80) := by kernel_rfl
theorem infSc : (Tryz.prog.info? 81).map (fun i => (i.zero, i.size, i.bytes)) = some (some (.agg #[.string ⟨#[]⟩, .int .i64 0, .int .i64 0, .int .i64 0, .int .i64 0, .int .i64 0, .int .i64 0, .int .i64 0, .int .i64 0, .int .i64 0]), 10, 88) := by kernel_rfl
theorem infLa : (Tryz.prog.info? 57).map (fun i => (i.zero, i.size, i.bytes)) = some (some (.agg #[.string ⟨#[]⟩, .int .i64 0, .int .i64 0, .int .i64 0, .int .i64 0, .int .i64 0]), 6, 56) := by kernel_rfl
theorem infRa : (Tryz.prog.info? 83).map (fun i => (i.zero, i.size, i.bytes)) = some (some (.agg #[.string ⟨#[]⟩, .int .i64 0, .int .i64 0, .int .i64 0, .int .i64 0, .int .i64 0, .int .i64 0, .int .i64 0]), 8, 72) := by kernel_rfl
theorem infDr : (Tryz.prog.info? 61).map (fun i => (i.zero, i.size, i.bytes)) = some (some (.agg #[.string ⟨#[]⟩, .int .i64 0, .int .i64 0, .int .i64 0, .int .i64 0]), 5, 48) := by kernel_rfl
theorem infLn : (Tryz.prog.info? 85).map (fun i => (i.zero, i.size, i.bytes)) = some (some (.agg #[.string ⟨#[]⟩, .int .i64 0, .int .i64 0, .int .i64 0, .int .i64 0, .int .i64 0, .int .i64 0]), 7, 64) := by kernel_rfl
end Go.Proofs.YtbpcjpiaimdpnaaGreatDoor
namespace Go.Proofs.YtbpcjpiaimdpnaaGreatDoor
open Go Go.RowKit
set_option linter.unusedVariables false
attribute [local go_sem ↓] evalL getL64 setL64
attribute [local go_sem ↓] getL8 setL8
attribute [local go_sem ↓] getL1 getL0
set_option maxRecDepth 100000 in
set_option maxHeartbeats 8000000 in
theorem add_table (w : World) (base tb : Nat) (t : Tb) (a : TbA) (x : IV) (B : Option Addr) (d : Nat) (hO : TbO w base tb t a) (hlt : tb < base) (hbw : base ≤ w.heap.size) (hK : ∃ w0 : World, KsAt w0 B x.keys ∧ Below w0.heap.size w0 w ∧ w0.heap.size ≤ tb) (hi : ItOk x) (hw : x.word = t_table) (hl : t.tr.length ≤ 100000) (q : Nat) (wz : World) (hOz : TbO wz base tb t a) (hqz : wz.heap.size ≤ q) (hq : q < w.heap.size) :
  Calls Tryz.prog 40 #[.pointer (some ⟨tb, 0, none⟩), vOfX x B d] w (AddOut (putR t x) (!missAll x) base tb q w) := by
 have hzt := hOz.bx.lt
 have HOZ := hQ0 hOz
 clear hOz
 have HO := hQ0 hO
 have HK := hQ0 hK
 have HI := hQ0 hi
 have ho := hi.iv
 have H1 := hQ0 (ar_has hi.ar).1
 have HW := hQ0 hw
 have HL := hQ0 hl
 clear hO hK hi hl
 unfold vOfX
 have b_table : (x.word.toList == ([116, 97, 98, 108, 101] : List UInt8)) = true := by rw [hw]; kernel_rfl
 clear hw
 go_enter Tryz.func40, Tryz.ntmps40; (try simp only [List.append_eq, List.cons_append, List.nil_append])
 go_upto_region 2 with (fail)
 (refine pin_eqT (fun w1 hE_w1 => ?_))
 have HX1 : Hid (BoxAt w1 w.heap.size [.string x.word, .string x.name, .slice B x.keys.length d, .int .i64 x.at_]) := hQ0 (by rw [hE_w1]; exact (BoxAt.new _ _ _).alloc _)
 have HB1 : Hid (Below w.heap.size w w1) := hQ0 (by rw [hE_w1]; ((with_reducible (repeat (first | exact bR _ _ | apply bS | apply bA | apply bD | refine bT ?_ (by assumption) ?_ | refine bO (by assumption) ?_ ?_))) <;> (first | omega | (simp <;> omega))))
 obtain ⟨vb, hvb⟩ : ∃ z, z = w.heap.size + 1 := ⟨_, rfl⟩
 have HV1 : Hid (VAt w1 vb x B d false) := hQ0 (by
  obtain ⟨w0, q1, q2, q3⟩ := HK.out
  rw [hE_w1, hvb]
  refine ⟨?_, w0, q1, (q2.alloc (by have := q2.size; omega) _).alloc (by have := q2.size; simp; omega) _, by have := q2.size; omega⟩
  have := BoxAt.new (w.alloc (.cells #[.string x.word, .string x.name, .slice B x.keys.length d, .int .i64 x.at_] 97)) [.string x.word, .string x.name, .slice B x.keys.length d, .int .i64 x.at_, .bool false] 163
  have hsz : (w.alloc (.cells #[.string x.word, .string x.name, .slice B x.keys.length d, .int .i64 x.at_] 97)).heap.size = w.heap.size + 1 := by simp
  rw [hsz] at this
  exact this)
 have hvw : w.heap.size < vb := by omega
 rw [← hvb]
 clear hE_w1 hvb
 have x0 := HX1.out.c 0 (.string x.word) rfl
 have hltX := HX1.out.lt
 go_upto_region 7 with (first | (go_at_call 94; refine (vbounce_any _ _ x B d _ HV1.out ho (H1.out _ (by simp [keys1])) (H1.out _ (by simp [keys1]))).mono ?_; rintro e w2 ⟨rfl, hb2⟩; have HV2 := hQ0 (HV1.out.below hb2); have HX2 := hQ0 (HX1.out.below hb2 HX1.out.lt)) | (go_at_call 95; refine (vports_any _ _ x B d _ HV2.out ho (H1.out _ (by simp [keys1])) (H1.out _ (by simp [keys1]))).mono ?_; rintro e w3 ⟨rfl, hb3⟩; have HV3 := hQ0 (HV2.out.below hb3); have HX3 := hQ0 (HX2.out.below hb3 HX2.out.lt)) | (go_at_call 96; refine (or_any _ _ x B d _ k_min 0 HV3.out ho (H1.out _ (by simp [keys1])).ne).mono ?_; rintro e w4 ⟨rfl, hb4⟩; have HV4 := hQ0 (HV3.out.below hb4); have HX4 := hQ0 (HX3.out.below hb4 HX3.out.lt); have x04 := HX4.out.c 0 (.string x.word) rfl))
 have HB4 : Hid (Below w.heap.size w w4) := hQ0 (((HB1.out.trans (hb2.mono HB1.out.size)).trans (hb3.mono (by have := HB1.out.size; have := hb2.size; omega))).trans (hb4.mono (by have := HB1.out.size; have := hb2.size; have := hb3.size; omega)))
 have HK4 : Hid (∃ w0 : World, KsAt w0 B x.keys ∧ Below w0.heap.size w0 w4 ∧ w0.heap.size ≤ tb) := hQ0 (by
  obtain ⟨w0, q1, q2, q3⟩ := HK.out
  exact ⟨w0, q1, q2.trans (HB4.out.mono q2.size), q3⟩)
 clear HV1 HV2 HV3 HX1 HX2 HX3 HX4 hb2 hb3 hb4 x0 x04 hltX HB1
 go_wp2_with (go_at_call 97; refine (head_any w4 w base tb vb t a x B d false HO.out HB4.out (by omega) hlt (by have := HB4.out.size; omega) HV4.out HK4.out ho HI.out.ar HI.out.tr HL.out q wz HOZ.out hqz hq).mono ?_; rintro e w5 ⟨rfl, hb5, hV5, a', hO5⟩; have HV5 := hQ0 hV5; have HO5 := hQ0 hO5; clear hV5 hO5; have v9 := HV5.out.bx.c 4 (.bool (missR x k_radius false)) rfl; have hltV := HV5.out.bx.lt; obtain ⟨M, hM⟩ : ∃ z, z = missR x k_radius false := ⟨_, rfl⟩; rw [← hM] at v9; have HM := hQ0 hM; clear hM)
 go_ret
 have hm : missAll x = M := by rw [HM.out]; unfold missAll missR; rw [HW.out, show reqR t_table = [k_radius] from by kernel_rfl]; simp
 refine ⟨(show _ = Ending.returned (.bool (!M)) from rfl).trans (by rw [hm]), (BelQ.of HB4.out (by omega) hq).trans hb5, a', ?_⟩
 have e : putR t x = headR t x := by unfold putR; rw [HW.out]; kernel_rfl
 rw [e]
 exact HO5.out
theorem sub_mem {l m : List ByteArray} (h : l.all (fun k => m.any fun q => decide (q = k)) = true) {k : ByteArray} (hk : k ∈ l) : k ∈ m := by
 have h1 := List.all_eq_true.1 h k hk
 obtain ⟨q, hq, e⟩ := List.any_eq_true.1 h1
 rw [← of_decide_eq_true e]
 exact hq
structure Tb.le (t : Tb) (n : Nat) : Prop where
  tr : t.tr.length ≤ 7 * n
  ws : t.ws.length ≤ n
  ars : t.ars.length ≤ n
  ps : t.ps.length ≤ n
  fs : t.fs.length ≤ n
  zs : t.zs.length ≤ n
  ss : t.ss.length ≤ n
  las : t.las.length ≤ n
  rs : t.rs.length ≤ n
  ds : t.ds.length ≤ n
  lns : t.lns.length ≤ n
theorem add_any (w : World) (base tb n : Nat) (t : Tb) (a : TbA) (x : IV) (B : Option Addr) (d : Nat) (hO : TbO w base tb t a) (hlt : tb < base) (hbw : base ≤ w.heap.size) (hK : ∃ w0 : World, KsAt w0 B x.keys ∧ Below w0.heap.size w0 w ∧ w0.heap.size ≤ tb) (hi : ItOk x) (hl : t.le n) (hn : n ≤ 10000) (q : Nat) (wz : World) (hOz : TbO wz base tb t a) (hqz : wz.heap.size ≤ q) (hq : q < w.heap.size) :
  Calls Tryz.prog 40 #[.pointer (some ⟨tb, 0, none⟩), vOfX x B d] w (AddOut (putR t x) (!missAll x) base tb q w) := by
 have h1 := (ar_has hi.ar).1
 have h2 := (ar_has hi.ar).2
 have g1 : ∀ k ∈ [k_level, k_rest, k_grip, k_coil, k_switch, k_min, k_kick, k_size, k_into, k_limit], Has1 x k := fun k hk => h1 k (sub_mem (by kernel_rfl) hk)
 have g2 : ∀ k ∈ [k_center, k_from, k_to, k_half, k_out, k_dir], Has2 x k := fun k hk => h2 k (sub_mem (by kernel_rfl) hk)
 obtain ⟨l0, l1, l2, l3, l4, l5, l6, l7, l8, l9, l10⟩ := hl
 rcases hi.ww with h | h
 · exact add_table w base tb t a x B d hO hlt hbw hK hi h (by omega) q wz hOz hqz hq
 · exact add_wall w base tb t a x B d hO hlt hbw hK hi.iv h q wz hOz hqz hq g1 g2 (by omega)
def a0 : TbA := ⟨none, 0, none, 0, none, 0, none, 0, none, 0, none, 0, none, 0, none, 0, none, 0, none, 0, none, 0⟩
structure Tb.nms (t : Tb) : Prop where
  ws : ∀ x ∈ t.ws, x.nm.size ≤ 20000
  ars : ∀ x ∈ t.ars, x.nm.size ≤ 20000
  ps : ∀ x ∈ t.ps, x.nm.size ≤ 20000
  fs : ∀ x ∈ t.fs, x.nm.size ≤ 20000
  zs : ∀ x ∈ t.zs, x.nm.size ≤ 20000
  ss : ∀ x ∈ t.ss, x.nm.size ≤ 20000
  las : ∀ x ∈ t.las, x.nm.size ≤ 20000
  rs : ∀ x ∈ t.rs, x.nm.size ≤ 20000
  ds : ∀ x ∈ t.ds, x.nm.size ≤ 20000
  lns : ∀ x ∈ t.lns, x.nm.size ≤ 20000
  o : t.only5
theorem mem_snoc {α : Type} {P : α → Prop} {l : List α} {y : α} (h : ∀ x ∈ l, P x) (hy : P y) : ∀ x ∈ l ++ [y], P x := fun x hx => by
 rcases List.mem_append.1 hx with h1 | h1
 · exact h x h1
 · simp only [List.mem_singleton] at h1
   subst h1
   exact hy
theorem putR_ind {P : Tb → Prop} (t : Tb) (x : IV) (h0 : P (headR t x)) (h1 : P { t with ws := t.ws ++ [mkWl x] }) (h2 : P { t with ars := t.ars ++ [mkAc x] }) (h3 : P { t with ps := t.ps ++ [mkPs x] }) (h4 : P { t with fs := t.fs ++ [mkFl x] }) (h5 : P { t with zs := t.zs ++ [mkZn x] }) (h6 : P { t with ss := t.ss ++ [mkSc x] }) (h7 : P { t with las := t.las ++ [mkLa x] }) (h8 : P { t with rs := t.rs ++ [mkRa x] }) (h9 : P { t with ds := t.ds ++ [mkDr x] }) (h10 : P { t with lns := t.lns ++ [mkLn x] }) (hn : P t) : P (putR t x) := by
 unfold putR
 by_cases c0 : x.word = t_table
 · rw [if_pos c0]; exact h0
 rw [if_neg c0]
 by_cases c1 : x.word = t_wall ∨ x.word = t_gate ∨ x.word = t_target ∨ x.word = t_sling
 · rw [if_pos c1]; exact h1
 rw [if_neg c1]
 by_cases c2 : x.word = t_arc
 · rw [if_pos c2]; exact h2
 rw [if_neg c2]
 by_cases c3 : x.word = t_post
 · rw [if_pos c3]; exact h3
 rw [if_neg c3]
 by_cases c4 : x.word = t_flipper
 · rw [if_pos c4]; exact h4
 rw [if_neg c4]
 by_cases c5 : x.word = t_zone
 · rw [if_pos c5]; exact h5
 rw [if_neg c5]
 by_cases c6 : x.word = t_saucer
 · rw [if_pos c6]; exact h6
 rw [if_neg c6]
 by_cases c7 : x.word = t_lane
 · rw [if_pos c7]; exact h7
 rw [if_neg c7]
 by_cases c8 : x.word = t_ramp
 · rw [if_pos c8]; exact h8
 rw [if_neg c8]
 by_cases c9 : x.word = t_drain
 · rw [if_pos c9]; exact h9
 rw [if_neg c9]
 by_cases c10 : x.word = t_launcher
 · rw [if_pos c10]; exact h10
 rw [if_neg c10]
 exact hn
theorem put_nms {t : Tb} {x : IV} (h : t.nms) (hx : x.name.size ≤ 20000) (hw : x.word = t_table ∨ x.word = t_wall) : (putR t x).nms := by
 rcases hw with e | e
 · rw [show putR t x = headR t x from by unfold putR; rw [if_pos e]]
   exact ⟨h.1, h.2, h.3, h.4, h.5, h.6, h.7, h.8, h.9, h.10, ⟨h.o.1, h.o.2, h.o.3, h.o.4, h.o.5⟩⟩
 · rw [show putR t x = { t with ws := t.ws ++ [mkWl x] } from by unfold putR; rw [if_neg (by rw [e]; decide), if_pos (.inl e)]]
   exact ⟨mem_snoc (P := fun z : Wl => z.nm.size ≤ 20000) h.1 hx, h.2, h.3, h.4, h.5, h.6, h.7, h.8, h.9, h.10, ⟨h.o.1, h.o.2, h.o.3, h.o.4, h.o.5⟩⟩
theorem troughR_len (x : IV) (b : Int) : (troughR x b).length ≤ 7 := by
 unfold troughR
 split
 · rw [troughF_len]; omega
 · simp
theorem put_le {t : Tb} {x : IV} {n : Nat} (h : t.le n) : (putR t x).le (n + 1) := by
 obtain ⟨h0, h1, h2, h3, h4, h5, h6, h7, h8, h9, h10⟩ := h
 have hq := troughR_len x (orR x k_balls 1)
 apply putR_ind (P := fun z => z.le (n + 1))
 all_goals (refine ⟨?_, ?_, ?_, ?_, ?_, ?_, ?_, ?_, ?_, ?_, ?_⟩)
 all_goals ((try simp only [headR, List.length_append, List.length_cons, List.length_nil]); omega)
theorem own_cap {w : World} {base size n : Nat} {e : TypeId} {A : Option Addr} {c : Nat} {xs : List Value} (h : w.ownsRow base e size (.slice A n c) n xs) : n ≤ c := by
 rcases Nat.eq_zero_or_pos n with h0 | h0
 · omega
 · obtain ⟨g, _, _, _, hc, _⟩ := own_cells h h0
   exact hc
theorem own_aok {w : World} {base size n : Nat} {e : TypeId} {A : Option Addr} {c : Nat} {xs : List Value} (h : w.ownsRow base e size (.slice A n c) n xs) : AOk A := by
 rcases h.2 with ⟨hv, _⟩ | ⟨g, cap, cur, hv, _⟩
 · simp only [Value.slice.injEq] at hv
   exact .inl hv.1
 · simp only [Value.slice.injEq] at hv
   exact .inr ⟨g, 0, hv.1⟩
theorem TbO.cap {w : World} {base tb : Nat} {t : Tb} {a : TbA} (h : TbO w base tb t a) : TbCap t a := ⟨own_cap h.ss, own_cap h.rs, own_cap h.lns, ⟨own_aok h.tr, own_aok h.ws, own_aok h.ars, own_aok h.ps, own_aok h.fs, own_aok h.zs, own_aok h.ss, own_aok h.las, own_aok h.rs, own_aok h.ds, own_aok h.lns⟩⟩
theorem tsmall_of {t : Tb} {n : Nat} (h : t.nms) (hl : t.le n) (hn : n ≤ 10000) : TbSmall t := by
 have hm : (20000 : Nat) ≤ maxLen := by unfold maxLen; omega
 have hm2 : (70000 : Nat) ≤ maxLen := by unfold maxLen; omega
 exact ⟨by have := hl.tr; omega, fun x hx => Nat.le_trans (h.1 x hx) hm, fun x hx => Nat.le_trans (h.2 x hx) hm, fun x hx => Nat.le_trans (h.3 x hx) hm, fun x hx => Nat.le_trans (h.4 x hx) hm, fun x hx => Nat.le_trans (h.5 x hx) hm, fun x hx => Nat.le_trans (h.6 x hx) hm, fun x hx => Nat.le_trans (h.7 x hx) hm, fun x hx => Nat.le_trans (h.8 x hx) hm, fun x hx => Nat.le_trans (h.9 x hx) hm, fun x hx => Nat.le_trans (h.10 x hx) hm⟩
theorem tbo_new (w : World) (tb : Nat) (htb : tb = w.heap.size) : TbO (w.alloc (.cells #[.int .i64 0, .int .i64 0, .int .i64 0, .int .i64 0, .int .i64 0, .int .i64 0, .int .i64 0, .slice none 0 0, .slice none 0 0, .slice none 0 0, .slice none 0 0, .slice none 0 0, .slice none 0 0, .slice none 0 0, .slice none 0 0, .slice none 0 0, .slice none 0 0, .slice none 0 0] 36)) (tb + 1) tb tb0 a0 := by
 subst htb
 exact ⟨BoxAt.new w (tb0.cells a0) 36, World.ownsRow_nil _ _ _ _, World.ownsRow_nil _ _ _ _, World.ownsRow_nil _ _ _ _, World.ownsRow_nil _ _ _ _, World.ownsRow_nil _ _ _ _, World.ownsRow_nil _ _ _ _, World.ownsRow_nil _ _ _ _, World.ownsRow_nil _ _ _ _, World.ownsRow_nil _ _ _ _, World.ownsRow_nil _ _ _ _, World.ownsRow_nil _ _ _ _⟩
def CompOut (R : Tb × Int × Int) (w : World) (e : Ending) (w' : World) : Prop := ∃ a, e = .returned (.tuple #[R.1.v a, .int .i64 R.2.1, .int .i64 R.2.2]) ∧ Below w.heap.size w w' ∧ TbAt w' R.1 a ∧ TbCap R.1 a ∧ ∃ n, R.1.nms ∧ R.1.le n ∧ n ≤ 10000
theorem tb0_nms : tb0.nms := ⟨by simp [tb0], by simp [tb0], by simp [tb0], by simp [tb0], by simp [tb0], by simp [tb0], by simp [tb0], by simp [tb0], by simp [tb0], by simp [tb0], ⟨Nat.le_refl _, Nat.le_refl _, Nat.le_refl _, Nat.le_refl _, Nat.le_refl _⟩⟩
theorem tb0_le (n : Nat) : tb0.le n := ⟨by simp [tb0], by simp [tb0], by simp [tb0], by simp [tb0], by simp [tb0], by simp [tb0], by simp [tb0], by simp [tb0], by simp [tb0], by simp [tb0], by simp [tb0]⟩
theorem comp_zero (w w' : World) (e : Int) (p : Int) (hb : Below w.heap.size w w') : CompOut (tb0, e, p) w (.returned (.tuple #[tb0.v a0, .int .i64 e, .int .i64 p])) w' :=
 ⟨a0, rfl, hb, ⟨RowsAt.nil, RowsAt.nil, RowsAt.nil, RowsAt.nil, RowsAt.nil, RowsAt.nil, RowsAt.nil, RowsAt.nil, RowsAt.nil, RowsAt.nil, RowsAt.nil⟩, ⟨Nat.le_refl _, Nat.le_refl _, Nat.le_refl _, ⟨.inl rfl, .inl rfl, .inl rfl, .inl rfl, .inl rfl, .inl rfl, .inl rfl, .inl rfl, .inl rfl, .inl rfl, .inl rfl⟩⟩, 0, tb0_nms, tb0_le 0, Nat.zero_le _⟩
def nmL (i : Nat) : ByteArray := ⟨#[101, UInt8.ofNat (97 + i / 26), UInt8.ofNat (97 + i % 26)]⟩
def t64 : Tb := ⟨64, 0, 0, 0, 0, 0, 0, [], [], [], [], [], [], [], [], [], [], []⟩
def elWl (i : Nat) : Wl := ⟨nmL i, 1, 0, 0, 0, 1, 0, 0, 0, 0, 0, -1, -1⟩
def tabWl (k : Nat) : Tb := { t64 with ws := (List.range k).map elWl }
theorem tabWl_len (k : Nat) : (tabWl k).ws.length = k := by simp [tabWl]
theorem tabWl_s (k : Nat) : { tabWl k with ws := (tabWl k).ws ++ [elWl k] } = tabWl (k + 1) := by
 simp only [tabWl, List.range_succ, List.map_append, List.map_cons, List.map_nil]
set_option maxRecDepth 100000 in
theorem limWl_0 : checkR (tabWl 62) = 0 := by kernel_rfl
set_option maxRecDepth 100000 in
theorem limWl_1 : checkR (tabWl 63) = 0 := by kernel_rfl
set_option maxRecDepth 100000 in
theorem limWl_2 : checkR (tabWl 64) = 0 := by kernel_rfl
set_option maxRecDepth 100000 in
theorem limWl_3 : checkR (tabWl 65) = 9 := by kernel_rfl
set_option maxRecDepth 100000 in
theorem limWl_4 : checkR (tabWl 66) = 9 := by kernel_rfl
theorem limWl (d : Nat) (h : d < 5) : checkR (tabWl (62 + d)) = if 2 < d then 9 else 0 := by
 match d, h with
 | 0, _ => exact limWl_0
 | 1, _ => exact limWl_1
 | 2, _ => exact limWl_2
 | 3, _ => exact limWl_3
 | 4, _ => exact limWl_4
theorem smallWl (k : Nat) (h : k ≤ 100) : TbSmall (tabWl k) := tsmall_of (n := 100) ⟨fun x hx => by (obtain ⟨i, _, rfl⟩ := List.mem_map.1 hx; show 3 ≤ 20000; decide), fun x hx => (by cases hx), fun x hx => (by cases hx), fun x hx => (by cases hx), fun x hx => (by cases hx), fun x hx => (by cases hx), fun x hx => (by cases hx), fun x hx => (by cases hx), fun x hx => (by cases hx), fun x hx => (by cases hx), ⟨Nat.le_refl _, Nat.le_refl _, Nat.le_refl _, Nat.le_refl _, Nat.le_refl _⟩⟩ ⟨Nat.zero_le _, by (rw [tabWl_len]; exact h), Nat.zero_le _, Nat.zero_le _, Nat.zero_le _, Nat.zero_le _, Nat.zero_le _, Nat.zero_le _, Nat.zero_le _, Nat.zero_le _, Nat.zero_le _⟩ (by decide)
def elPs (i : Nat) : Ps := ⟨nmL i, 0, 0, 0, 0, 0, 0, 0, 0, -1, -1⟩
def tabPs (k : Nat) : Tb := { t64 with ps := (List.range k).map elPs }
theorem tabPs_len (k : Nat) : (tabPs k).ps.length = k := by simp [tabPs]
theorem tabPs_s (k : Nat) : { tabPs k with ps := (tabPs k).ps ++ [elPs k] } = tabPs (k + 1) := by
 simp only [tabPs, List.range_succ, List.map_append, List.map_cons, List.map_nil]
set_option maxRecDepth 100000 in
theorem limPs_0 : checkR (tabPs 30) = 0 := by kernel_rfl
set_option maxRecDepth 100000 in
theorem limPs_1 : checkR (tabPs 31) = 0 := by kernel_rfl
set_option maxRecDepth 100000 in
theorem limPs_2 : checkR (tabPs 32) = 0 := by kernel_rfl
set_option maxRecDepth 100000 in
theorem limPs_3 : checkR (tabPs 33) = 9 := by kernel_rfl
set_option maxRecDepth 100000 in
theorem limPs_4 : checkR (tabPs 34) = 9 := by kernel_rfl
theorem limPs (d : Nat) (h : d < 5) : checkR (tabPs (30 + d)) = if 2 < d then 9 else 0 := by
 match d, h with
 | 0, _ => exact limPs_0
 | 1, _ => exact limPs_1
 | 2, _ => exact limPs_2
 | 3, _ => exact limPs_3
 | 4, _ => exact limPs_4
theorem smallPs (k : Nat) (h : k ≤ 100) : TbSmall (tabPs k) := tsmall_of (n := 100) ⟨fun x hx => (by cases hx), fun x hx => (by cases hx), fun x hx => by (obtain ⟨i, _, rfl⟩ := List.mem_map.1 hx; show 3 ≤ 20000; decide), fun x hx => (by cases hx), fun x hx => (by cases hx), fun x hx => (by cases hx), fun x hx => (by cases hx), fun x hx => (by cases hx), fun x hx => (by cases hx), fun x hx => (by cases hx), ⟨Nat.le_refl _, Nat.le_refl _, Nat.le_refl _, Nat.le_refl _, Nat.le_refl _⟩⟩ ⟨Nat.zero_le _, Nat.zero_le _, Nat.zero_le _, by (rw [tabPs_len]; exact h), Nat.zero_le _, Nat.zero_le _, Nat.zero_le _, Nat.zero_le _, Nat.zero_le _, Nat.zero_le _, Nat.zero_le _⟩ (by decide)
def elLa (i : Nat) : La := ⟨nmL i, 0, 0, 0, 1, 0⟩
def tabLa (k : Nat) : Tb := { t64 with las := (List.range k).map elLa }
theorem tabLa_len (k : Nat) : (tabLa k).las.length = k := by simp [tabLa]
theorem tabLa_s (k : Nat) : { tabLa k with las := (tabLa k).las ++ [elLa k] } = tabLa (k + 1) := by
 simp only [tabLa, List.range_succ, List.map_append, List.map_cons, List.map_nil]
set_option maxRecDepth 100000 in
theorem limLa_0 : checkR (tabLa 22) = 0 := by kernel_rfl
set_option maxRecDepth 100000 in
theorem limLa_1 : checkR (tabLa 23) = 0 := by kernel_rfl
set_option maxRecDepth 100000 in
theorem limLa_2 : checkR (tabLa 24) = 0 := by kernel_rfl
set_option maxRecDepth 100000 in
theorem limLa_3 : checkR (tabLa 25) = 9 := by kernel_rfl
set_option maxRecDepth 100000 in
theorem limLa_4 : checkR (tabLa 26) = 9 := by kernel_rfl
theorem limLa (d : Nat) (h : d < 5) : checkR (tabLa (22 + d)) = if 2 < d then 9 else 0 := by
 match d, h with
 | 0, _ => exact limLa_0
 | 1, _ => exact limLa_1
 | 2, _ => exact limLa_2
 | 3, _ => exact limLa_3
 | 4, _ => exact limLa_4
theorem smallLa (k : Nat) (h : k ≤ 100) : TbSmall (tabLa k) := tsmall_of (n := 100) ⟨fun x hx => (by cases hx), fun x hx => (by cases hx), fun x hx => (by cases hx), fun x hx => (by cases hx), fun x hx => (by cases hx), fun x hx => (by cases hx), fun x hx => by (obtain ⟨i, _, rfl⟩ := List.mem_map.1 hx; show 3 ≤ 20000; decide), fun x hx => (by cases hx), fun x hx => (by cases hx), fun x hx => (by cases hx), ⟨Nat.le_refl _, Nat.le_refl _, Nat.le_refl _, Nat.le_refl _, Nat.le_refl _⟩⟩ ⟨Nat.zero_le _, Nat.zero_le _, Nat.zero_le _, Nat.zero_le _, Nat.zero_le _, Nat.zero_le _, Nat.zero_le _, by (rw [tabLa_len]; exact h), Nat.zero_le _, Nat.zero_le _, Nat.zero_le _⟩ (by decide)
def elZn (i : Nat) : Zn := ⟨nmL i, 0, 0, 0, 1, 1, 0, 0, -1⟩
def tabZn (k : Nat) : Tb := { t64 with zs := (List.range k).map elZn }
theorem tabZn_len (k : Nat) : (tabZn k).zs.length = k := by simp [tabZn]
theorem tabZn_s (k : Nat) : { tabZn k with zs := (tabZn k).zs ++ [elZn k] } = tabZn (k + 1) := by
 simp only [tabZn, List.range_succ, List.map_append, List.map_cons, List.map_nil]
set_option maxRecDepth 100000 in
theorem limZn_0 : checkR (tabZn 14) = 0 := by kernel_rfl
set_option maxRecDepth 100000 in
theorem limZn_1 : checkR (tabZn 15) = 0 := by kernel_rfl
set_option maxRecDepth 100000 in
theorem limZn_2 : checkR (tabZn 16) = 0 := by kernel_rfl
set_option maxRecDepth 100000 in
theorem limZn_3 : checkR (tabZn 17) = 9 := by kernel_rfl
set_option maxRecDepth 100000 in
theorem limZn_4 : checkR (tabZn 18) = 9 := by kernel_rfl
theorem limZn (d : Nat) (h : d < 5) : checkR (tabZn (14 + d)) = if 2 < d then 9 else 0 := by
 match d, h with
 | 0, _ => exact limZn_0
 | 1, _ => exact limZn_1
 | 2, _ => exact limZn_2
 | 3, _ => exact limZn_3
 | 4, _ => exact limZn_4
theorem smallZn (k : Nat) (h : k ≤ 100) : TbSmall (tabZn k) := tsmall_of (n := 100) ⟨fun x hx => (by cases hx), fun x hx => (by cases hx), fun x hx => (by cases hx), fun x hx => (by cases hx), fun x hx => by (obtain ⟨i, _, rfl⟩ := List.mem_map.1 hx; show 3 ≤ 20000; decide), fun x hx => (by cases hx), fun x hx => (by cases hx), fun x hx => (by cases hx), fun x hx => (by cases hx), fun x hx => (by cases hx), ⟨Nat.le_refl _, Nat.le_refl _, Nat.le_refl _, Nat.le_refl _, Nat.le_refl _⟩⟩ ⟨Nat.zero_le _, Nat.zero_le _, Nat.zero_le _, Nat.zero_le _, Nat.zero_le _, by (rw [tabZn_len]; exact h), Nat.zero_le _, Nat.zero_le _, Nat.zero_le _, Nat.zero_le _, Nat.zero_le _⟩ (by decide)
def elDr (i : Nat) : Dr := ⟨nmL i, 0, 0, 0, 1⟩
def tabDr (k : Nat) : Tb := { t64 with ds := (List.range k).map elDr }
theorem tabDr_len (k : Nat) : (tabDr k).ds.length = k := by simp [tabDr]
theorem tabDr_s (k : Nat) : { tabDr k with ds := (tabDr k).ds ++ [elDr k] } = tabDr (k + 1) := by
 simp only [tabDr, List.range_succ, List.map_append, List.map_cons, List.map_nil]
set_option maxRecDepth 100000 in
theorem limDr_0 : checkR (tabDr 2) = 0 := by kernel_rfl
set_option maxRecDepth 100000 in
theorem limDr_1 : checkR (tabDr 3) = 0 := by kernel_rfl
set_option maxRecDepth 100000 in
theorem limDr_2 : checkR (tabDr 4) = 0 := by kernel_rfl
set_option maxRecDepth 100000 in
theorem limDr_3 : checkR (tabDr 5) = 9 := by kernel_rfl
set_option maxRecDepth 100000 in
theorem limDr_4 : checkR (tabDr 6) = 9 := by kernel_rfl
theorem limDr (d : Nat) (h : d < 5) : checkR (tabDr (2 + d)) = if 2 < d then 9 else 0 := by
 match d, h with
 | 0, _ => exact limDr_0
 | 1, _ => exact limDr_1
 | 2, _ => exact limDr_2
 | 3, _ => exact limDr_3
 | 4, _ => exact limDr_4
theorem smallDr (k : Nat) (h : k ≤ 100) : TbSmall (tabDr k) := tsmall_of (n := 100) ⟨fun x hx => (by cases hx), fun x hx => (by cases hx), fun x hx => (by cases hx), fun x hx => (by cases hx), fun x hx => (by cases hx), fun x hx => (by cases hx), fun x hx => (by cases hx), fun x hx => (by cases hx), fun x hx => by (obtain ⟨i, _, rfl⟩ := List.mem_map.1 hx; show 3 ≤ 20000; decide), fun x hx => (by cases hx), ⟨Nat.le_refl _, Nat.le_refl _, Nat.le_refl _, Nat.le_refl _, Nat.le_refl _⟩⟩ ⟨Nat.zero_le _, Nat.zero_le _, Nat.zero_le _, Nat.zero_le _, Nat.zero_le _, Nat.zero_le _, Nat.zero_le _, Nat.zero_le _, Nat.zero_le _, by (rw [tabDr_len]; exact h), Nat.zero_le _⟩ (by decide)
structure C4 (w : World) (b : Nat) (v0 v1 v2 v3 : Value) : Prop where
  c0 : w.cell? ⟨b, 0, none⟩ = some v0
  c1 : w.cell? ⟨b, 1, none⟩ = some v1
  c2 : w.cell? ⟨b, 2, none⟩ = some v2
  c3 : w.cell? ⟨b, 3, none⟩ = some v3
  fz : ∀ o, w.frozen? ⟨b, o, none⟩ = false
  lt : b < w.heap.size
structure C3 (w : World) (b : Nat) (v0 v1 v2 : Value) : Prop where
  c0 : w.cell? ⟨b, 0, none⟩ = some v0
  c1 : w.cell? ⟨b, 1, none⟩ = some v1
  c2 : w.cell? ⟨b, 2, none⟩ = some v2
  fz : ∀ o, w.frozen? ⟨b, o, none⟩ = false
  lt : b < w.heap.size
theorem C4.block {w w' : World} {b : Nat} {v0 v1 v2 v3 : Value} (h : C4 w b v0 v1 v2 v3) (hs : w.heap.size ≤ w'.heap.size) (hb : w'.heap[b]? = w.heap[b]?) : C4 w' b v0 v1 v2 v3 :=
 ⟨(World.cell?_of_block (a := ⟨b, 0, none⟩) hb).trans h.c0, (World.cell?_of_block (a := ⟨b, 1, none⟩) hb).trans h.c1, (World.cell?_of_block (a := ⟨b, 2, none⟩) hb).trans h.c2, (World.cell?_of_block (a := ⟨b, 3, none⟩) hb).trans h.c3, fun o => (World.frozen?_of_block (a := ⟨b, o, none⟩) hb).trans (h.fz o), Nat.lt_of_lt_of_le h.lt hs⟩
theorem C3.block {w w' : World} {b : Nat} {v0 v1 v2 : Value} (h : C3 w b v0 v1 v2) (hs : w.heap.size ≤ w'.heap.size) (hb : w'.heap[b]? = w.heap[b]?) : C3 w' b v0 v1 v2 :=
 ⟨(World.cell?_of_block (a := ⟨b, 0, none⟩) hb).trans h.c0, (World.cell?_of_block (a := ⟨b, 1, none⟩) hb).trans h.c1, (World.cell?_of_block (a := ⟨b, 2, none⟩) hb).trans h.c2, fun o => (World.frozen?_of_block (a := ⟨b, o, none⟩) hb).trans (h.fz o), Nat.lt_of_lt_of_le h.lt hs⟩
theorem C4.below {w w' : World} {b B : Nat} {v0 v1 v2 v3 : Value} (h : C4 w b v0 v1 v2 v3) (hb : Below B w w') (hB : b < B) : C4 w' b v0 v1 v2 v3 := h.block hb.size (hb.block b hB)
theorem C3.below {w w' : World} {b B : Nat} {v0 v1 v2 : Value} (h : C3 w b v0 v1 v2) (hb : Below B w w') (hB : b < B) : C3 w' b v0 v1 v2 := h.block hb.size (hb.block b hB)
theorem C4.but {w w' : World} {b rb : Nat} {v0 v1 v2 v3 : Value} (h : C4 w b v0 v1 v2 v3) (hb : But rb w w') (hn : b ≠ rb) : C4 w' b v0 v1 v2 v3 := h.block hb.size (hb.block b h.lt hn)
theorem C3.but {w w' : World} {b rb : Nat} {v0 v1 v2 : Value} (h : C3 w b v0 v1 v2) (hb : But rb w w') (hn : b ≠ rb) : C3 w' b v0 v1 v2 := h.block hb.size (hb.block b h.lt hn)
theorem C4.alloc {w : World} {b : Nat} {v0 v1 v2 v3 : Value} (h : C4 w b v0 v1 v2 v3) (o : Obj) : C4 (w.alloc o) b v0 v1 v2 v3 := h.block (by simp) (heap_alloc_old w o h.lt)
theorem C3.alloc {w : World} {b : Nat} {v0 v1 v2 : Value} (h : C3 w b v0 v1 v2) (o : Obj) : C3 (w.alloc o) b v0 v1 v2 := h.block (by simp) (heap_alloc_old w o h.lt)
theorem C4.new (w : World) (v0 v1 v2 v3 : Value) (e : TypeId) : C4 (w.alloc (.cells #[v0, v1, v2, v3] e)) w.heap.size v0 v1 v2 v3 := ⟨by go_simp, by go_simp, by go_simp, by go_simp, fun o => by go_simp, by simp⟩
theorem C3.new (w : World) (v0 v1 v2 : Value) (e : TypeId) : C3 (w.alloc (.cells #[v0, v1, v2] e)) w.heap.size v0 v1 v2 := ⟨by go_simp, by go_simp, by go_simp, fun o => by go_simp, by simp⟩
def ItemOut (rb N e : Nat) (R : PR IV) (w : World) (ε : Ending) (w' : World) : Prop := But rb w w' ∧ match R with
  | .err a b => ε = .panicked (flt a b)
  | .ok x r => ∃ B d A c, ε = .returned (vOfX x B d) ∧ KsOwn w' w.heap.size 120 B d x.keys ∧ RdAt w' rb N A r e c
def mkI (word name : ByteArray) (a : Nat) : PR (List KV) → PR IV
  | .err c b => .err c b
  | .ok ks l => .ok ⟨word, name, ks, a⟩ l
def numK (e : Nat) (word : ByteArray) (f : Nat) (acc : List KV) (key : ByteArray) (a : Nat) : PR (List Int) → PR (List KV)
  | .err c b => .err c b
  | .ok vs l => keysF e word f (acc ++ [⟨key, vs, a⟩]) l
theorem restF_eq (e : Nat) (word name : ByteArray) (a : Nat) (l : List WV) : restF e word name a l = mkI word name a (keysF e word (l.length + 1) [] l) := by
 unfold restF mkI
 cases keysF e word (l.length + 1) [] l <;> rfl
theorem keysF_key {e f : Nat} {word : ByteArray} {acc : List KV} {x : WV} {l : List WV} (h3 : x.kind = 1) (ha : ¬ arR word x.text < 0) (hh : hasK acc x.text = false) : keysF e word (f + 1) acc (x :: l) = numK e word f acc x.text x.at_ (numsF e (arR word x.text).toNat [] l) := by
 simp only [keysF]
 rw [if_neg (by omega), if_neg (by omega), if_neg ha, if_neg (by simp [hh])]
 unfold numK
 cases numsF e (arR word x.text).toNat [] l <;> rfl
theorem isK_cons {l : List WV} {k : Int} (h : isK l k = true) : ∃ x l', l = x :: l' ∧ x.kind = k := by
 cases l with
 | nil => cases h
 | cons x l => exact ⟨x, l, rfl, by simpa [isK] using h⟩
theorem isK_not {x : WV} {l : List WV} {k : Int} (h : isK (x :: l) k = false) : ¬ x.kind = k := by simpa [isK] using h
theorem ownr_low {w : World} {base size n : Nat} {e : TypeId} {v : Value} {xs : List Value} (h : w.ownsRow base e size v n xs) {p : Addr} (hp : p.block < base) (u : Value) : (w.setCell p u).ownsRow base e size v n xs :=
 ownsRow_block h fun b hv => Below.heap_setCell _ _ _ _ (by have := (h.lt b hv).1; omega)
theorem OwnI.low {w : World} {base : Nat} {A : Option Addr} {c : Nat} {l : List Int} (h : OwnI w base A c l) {p : Addr} (hp : p.block < base) (u : Value) : OwnI (w.setCell p u) base A c l := ownr_low h hp u
theorem KsOwn.low {w : World} {base : Nat} {tK : TypeId} {A : Option Addr} {c : Nat} {l : List KV} (h : KsOwn w base tK A c l) {p : Addr} (hp : p.block < base) (u : Value) : KsOwn (w.setCell p u) base tK A c l := by
 obtain ⟨ps, h1, h2, h3⟩ := h
 exact ⟨ps, h1, ownr_low h2 hp u, fun p' hp' => (h3 p' hp').low hp u⟩
theorem C3.grown {w w' : World} {b base : Nat} {v0 v1 v2 : Value} {row : Option Nat} (h : C3 w b v0 v1 v2) (hg : w.grownBy w' row) (hr : ∀ k, row = some k → base ≤ k) (hb : b < base) : C3 w' b v0 v1 v2 := h.block hg.size (hg.block b h.lt (fun e => by have := hr b e.symm; omega))
theorem C4.grown {w w' : World} {b base : Nat} {v0 v1 v2 v3 : Value} {row : Option Nat} (h : C4 w b v0 v1 v2 v3) (hg : w.grownBy w' row) (hr : ∀ k, row = some k → base ≤ k) (hb : b < base) : C4 w' b v0 v1 v2 v3 := h.block hg.size (hg.block b h.lt (fun e => by have := hr b e.symm; omega))
theorem C4.low {w : World} {b : Nat} {v0 v1 v2 v3 : Value} (h : C4 w b v0 v1 v2 v3) {p : Addr} (hp : p.block ≠ b) (u : Value) : C4 (w.setCell p u) b v0 v1 v2 v3 := h.block (by simp) (Below.heap_setCell _ _ _ _ (by omega))
theorem C3.set1 {w : World} {b : Nat} {v0 v1 v2 : Value} (h : C3 w b v0 v1 v2) (u : Value) : C3 (w.setCell ⟨b, 1, none⟩ u) b v0 u v2 := by
 obtain ⟨c0, c1, c2, fz, lt⟩ := h
 exact ⟨by go_simp, by go_simp, by go_simp, fun o => by go_simp, by simpa using lt⟩
theorem C4.set1 {w : World} {b : Nat} {v0 v1 v2 v3 : Value} (h : C4 w b v0 v1 v2 v3) (u : Value) : C4 (w.setCell ⟨b, 1, none⟩ u) b v0 u v2 v3 := by
 obtain ⟨c0, c1, c2, c3, fz, lt⟩ := h
 exact ⟨by go_simp, by go_simp, by go_simp, by go_simp, fun o => by go_simp, by simpa using lt⟩
theorem C4.set2 {w : World} {b : Nat} {v0 v1 v2 v3 : Value} (h : C4 w b v0 v1 v2 v3) (u : Value) : C4 (w.setCell ⟨b, 2, none⟩ u) b v0 v1 u v3 := by
 obtain ⟨c0, c1, c2, c3, fz, lt⟩ := h
 exact ⟨by go_simp, by go_simp, by go_simp, by go_simp, fun o => by go_simp, by simpa using lt⟩
theorem RdAt.drew {w : World} {rb N : Nat} {A : Option Addr} {l : List WV} {e c : Nat} (h : RdAt w rb N A l e c) : RdAt w.drew rb N A l e c := ⟨h.hw, h.he, h.fz, h.lt, h.nle, h.cap, h.ws⟩
theorem But.of_drew {rb : Nat} {w w' : World} (h : But rb w.drew w') : But rb w w' := ⟨h.os, h.tape, h.output, h.size, h.block⟩
theorem below_drew {B : Nat} {w w' : World} (h : Below B w.drew w') : Below B w w' := ⟨h.os, h.tape, h.output, h.size, h.block⟩
theorem Tabs.set {w : World} (h : Tabs w) {p : Addr} (hp : 3 ≤ p.block) (u : Value) : Tabs (w.setCell p u) := h.but ((But.refl p.block w).set u (.inl rfl)) hp
theorem Tabs.grown {w w' : World} {row : Option Nat} (h : Tabs w) (hg : w.grownBy w' row) (hr : ∀ k, row = some k → 3 ≤ k) : Tabs w' := by
 have := h.three
 exact ⟨tab_block gSp h.sp (hg.block _ (by omega) (fun e => by have := hr _ e.symm; omega)), tab_block gPw h.pw (hg.block _ (by omega) (fun e => by have := hr _ e.symm; omega))⟩
theorem KsOwn.more {w : World} {base : Nat} {tK : TypeId} {A : Option Addr} {c : Nat} {l : List KV} (hne : tK ≠ 3) (h : KsOwn w base tK A c l) : ∃ xs, w.ownsRow base tK 3 (.slice A l.length c) l.length xs ∧
  ∀ (x : KV) (B : Option Addr) (d : Nat) (v' : Value) (w' : World), OwnI w base B d x.vals → w'.ownsRow base tK 3 v' (l.length + 1) (xs ++ cellsOfK x B d) → w.grownBy w' (Value.ownBlock (.slice A l.length c)) → ∃ A' c', v' = .slice A' (l ++ [x]).length c' ∧ KsOwn w' base tK A' c' (l ++ [x]) := by
 obtain ⟨ps, rfl, h2, h3⟩ := h
 have e : (ps.map (·.1)).length = ps.length := List.length_map _
 rw [e] at h2 ⊢
 exact ⟨_, h2, fun x B d v' w' hx hw hg => KsOwn.snoc hne h2 h3 hx hw hg⟩
theorem XsOwn.more {w : World} {base : Nat} {tX tK : TypeId} {A : Option Addr} {c : Nat} {l : List IV} (n1 : tK ≠ tX) (n2 : 3 ≠ tX) (h : XsOwn w base tX tK A c l) : ∃ xs, w.ownsRow base tX 4 (.slice A l.length c) l.length xs ∧
  ∀ (x : IV) (B : Option Addr) (d : Nat) (v' : Value) (w' : World), KsOwn w base tK B d x.keys → w'.ownsRow base tX 4 v' (l.length + 1) (xs ++ cellsOfX x B d) → w.grownBy w' (Value.ownBlock (.slice A l.length c)) → ∃ A' c', v' = .slice A' (l ++ [x]).length c' ∧ XsOwn w' base tX tK A' c' (l ++ [x]) := by
 obtain ⟨ps, rfl, h2, h3⟩ := h
 have e : (ps.map (·.1)).length = ps.length := List.length_map _
 rw [e] at h2 ⊢
 exact ⟨_, h2, fun x B d v' w' hx hw hg => XsOwn.snoc n1 n2 h2 h3 hx hw hg⟩
theorem cells1 {w : World} {g : Nat} {x : Value} (h : w.cell? ⟨g, 0, none⟩ = some x) : ∀ j u, [x][j]? = some u → w.cell? ⟨g, j, none⟩ = some u := fun j u hj => by
 rcases j with _ | j
 · simp only [List.getElem?_cons_zero, Option.some.injEq] at hj
   subst hj; exact h
 · simp at hj
theorem C3.cells {w : World} {b : Nat} {v0 v1 v2 : Value} (h : C3 w b v0 v1 v2) : ∀ j u, [v0, v1, v2][j]? = some u → w.cell? ⟨b, j, none⟩ = some u := fun j u hj => by
 rcases j with _ | _ | _ | j
 · simp only [List.getElem?_cons_zero, Option.some.injEq] at hj
   subst hj; exact h.c0
 · simp only [List.getElem?_cons_succ, List.getElem?_cons_zero, Option.some.injEq] at hj
   subst hj; exact h.c1
 · simp only [List.getElem?_cons_succ, List.getElem?_cons_zero, Option.some.injEq] at hj
   subst hj; exact h.c2
 · simp at hj
theorem C4.cells {w : World} {b : Nat} {v0 v1 v2 v3 : Value} (h : C4 w b v0 v1 v2 v3) : ∀ j u, [v0, v1, v2, v3][j]? = some u → w.cell? ⟨b, j, none⟩ = some u := fun j u hj => by
 rcases j with _ | _ | _ | _ | j
 · simp only [List.getElem?_cons_zero, Option.some.injEq] at hj
   subst hj; exact h.c0
 · simp only [List.getElem?_cons_succ, List.getElem?_cons_zero, Option.some.injEq] at hj
   subst hj; exact h.c1
 · simp only [List.getElem?_cons_succ, List.getElem?_cons_zero, Option.some.injEq] at hj
   subst hj; exact h.c2
 · simp only [List.getElem?_cons_succ, List.getElem?_cons_zero, Option.some.injEq] at hj
   subst hj; exact h.c3
 · simp at hj
theorem field_word2 (w : World) (a b c d : Value) : (Instr.field 239 (.agg #[a, b, c, d]) 2).run Tryz.prog w = .ok c w := by
 simp [Instr.field, part, isAgg, asAgg, run_underlying Tryz.underlying239, run_underlying Tryz.underlying3, go_sem]
theorem field_word1 (w : World) (a b c d : Value) : (Instr.field 239 (.agg #[a, b, c, d]) 1).run Tryz.prog w = .ok b w := by
 simp [Instr.field, part, isAgg, asAgg, run_underlying Tryz.underlying239, run_underlying Tryz.underlying9, go_sem]
attribute [go_sem] field_word1 field_word2
theorem XsOwn.low {w : World} {base : Nat} {tX tK : TypeId} {A : Option Addr} {c : Nat} {l : List IV} (h : XsOwn w base tX tK A c l) {p : Addr} (hp : p.block < base) (u : Value) : XsOwn (w.setCell p u) base tX tK A c l := by
 obtain ⟨ps, h1, h2, h3⟩ := h
 exact ⟨ps, h1, ownr_low h2 hp u, fun p' hp' => (h3 p' hp').low hp u⟩
theorem XsOwn.weaker {w : World} {base base' : Nat} {tX tK : TypeId} {A : Option Addr} {c : Nat} {l : List IV} (h : XsOwn w base tX tK A c l) (hb : base' ≤ base) : XsOwn w base' tX tK A c l := by
 obtain ⟨ps, h1, h2, h3⟩ := h
 exact ⟨ps, h1, ownr_weaker h2 hb, fun p hp => (h3 p hp).weaker hb⟩
theorem RdAt.new {W : World} {N : Nat} {A : Option Addr} {l : List WV} {e c b : Nat} {t : TypeId} (hw : WvAt W N A l) (hN : N ≤ W.heap.size) (hc : l.length ≤ c) (hb : b = W.heap.size) : RdAt (W.alloc (.cells #[.slice A l.length c, .int .i64 e] t)) b N A l e c := by
 subst hb
 exact ⟨by go_simp, by go_simp, fun o => by go_simp, by simp, hN, hc, hw.below ((Below.refl W.heap.size W).alloc (Nat.le_refl _) _) hN⟩
end Go.Proofs.YtbpcjpiaimdpnaaGreatDoor
