/- Few statements; the reference's Get. -/
import Derived.Test.YteondblmcooklaaDoorSrcV
namespace Go.Proofs.YteondblmcooklaaDoor
open Go Go.RowKit
set_option linter.unusedVariables false
def fewK (k : KV) : Bool := decide (k.vals.length ≤ 30) && decide (k.key.size ≤ 100)
def fewX (x : IV) : Bool := decide (x.keys.length ≤ 30) && decide (x.word.size ≤ 100) && decide (x.name.size ≤ 100) && x.keys.all fewK
def fewB (l : List IV) : Bool := decide (l.length ≤ 60) && l.all fewX
theorem all_at {α : Type} {f : α → Bool} {l : List α} {k : Nat} {x : α} (hx : l[k]? = some x) (h : f x = false) : l.all f = false := by
  rw [List.all_eq_false]
  exact ⟨x, List.mem_of_getElem? hx, by simp [h]⟩
theorem all_take {α : Type} {f : α → Bool} {l : List α} {k : Nat} {x : α} (hx : l[k]? = some x) (h : (l.take k).all f = true) (hf : f x = true) : (l.take (k + 1)).all f = true := by
  rw [List.take_add_one, hx, List.all_append, h]
  simp [hf]
set_option maxRecDepth 100000 in
set_option maxHeartbeats 4000000 in
theorem few_any (l : List IV) (A : Option Addr) (c : Nat) (w : World) (hA : XsAt w A l) (hl : l.length ≤ maxLen) :
    Calls Tryd.prog 14 #[.slice A l.length c] w fun e w' => e = .returned (.bool (fewB l)) ∧ w = w' := by
  unfold maxLen at hl
  have HA := Lib.hid hA
  by_cases h60 : 60 < l.length
  · have hR : fewB l = false := by unfold fewB; rw [decide_eq_false (by omega)]; rfl
    have i0 : 60 < (l.length : Int) := by omega
    rw [hR]
    clear hA hR
    go_enter Tryd.func14, Tryd.ntmps14; (try simp only [List.append_eq, List.cons_append, List.nil_append])
    go_wp2_with fail
    go_ret
    exact ⟨rfl, rfl⟩
  · have i0 : ¬ 60 < (l.length : Int) := by omega
    obtain ⟨R, hR⟩ : ∃ R, R = fewB l := ⟨_, rfl⟩
    have HR : Hid (R = l.all fewX) := Lib.hid (by rw [hR]; unfold fewB; rw [decide_eq_true (by omega), Bool.true_and])
    rw [← hR]
    clear hA hR
    go_enter Tryd.func14, Tryd.ntmps14; (try simp only [List.append_eq, List.cons_append, List.nil_append])
    go_wp2_with fail
    go_loop [3] (fun t => ∃ k : Nat, k ≤ l.length ∧ t = .int .i64 k ∧ Hid ((l.take k).all fewX = true)) (fun t => l.length - (intOf t).toNat)
    case atStart => exact ⟨0, by omega, rfl, Lib.hid rfl⟩
    case round =>
      obtain ⟨k, hk, rfl, HJ⟩ := hrel
      by_cases hlt : k < l.length
      · obtain ⟨x, hx⟩ : ∃ x, l[k]? = some x := ⟨l[k], by simp⟩
        obtain ⟨g, o, C, q, rfl, hg, ⟨c0, c1, c2, c3⟩, hI⟩ := HA.out k x hx
        have HI := Lib.hid hI
        have HX := Lib.hid hx
        have i1 : (k : Int) < (l.length : Int) := by omega
        clear hI hx
        by_cases h1 : 30 < x.keys.length
        · obtain rfl : R = false := by rw [HR.out]; exact all_at HX.out (by unfold fewX; rw [decide_eq_false (by omega)]; rfl)
          have j1 : 30 < (x.keys.length : Int) := by omega
          go_wp2_with fail
          go_ret
          exact ⟨rfl, rfl⟩
        · have j1 : ¬ 30 < (x.keys.length : Int) := by omega
          by_cases h2 : 100 < x.word.size
          · obtain rfl : R = false := by rw [HR.out]; exact all_at HX.out (by unfold fewX; rw [decide_eq_false (p := x.word.size ≤ 100) (by omega)]; simp)
            have j2 : 100 < (x.word.size : Int) := by omega
            go_wp2_with fail
            go_ret
            exact ⟨rfl, rfl⟩
          · have j2 : ¬ 100 < (x.word.size : Int) := by omega
            by_cases h3 : 100 < x.name.size
            · obtain rfl : R = false := by rw [HR.out]; exact all_at HX.out (by unfold fewX; rw [decide_eq_false (p := x.name.size ≤ 100) (by omega)]; simp)
              have j3 : 100 < (x.name.size : Int) := by omega
              go_wp2_with fail
              go_ret
              exact ⟨rfl, rfl⟩
            · have j3 : ¬ 100 < (x.name.size : Int) := by omega
              have HE : Hid (fewX x = x.keys.all fewK) := Lib.hid (by unfold fewX; rw [decide_eq_true (by omega), decide_eq_true (by omega), decide_eq_true (by omega)]; rfl)
              go_wp2_with fail
              go_loop [4] (fun t => ∃ j : Nat, j ≤ x.keys.length ∧ t = .int .i64 j ∧ Hid ((x.keys.take j).all fewK = true)) (fun t => x.keys.length - (intOf t).toNat)
              case atStart => exact ⟨0, by omega, rfl, Lib.hid rfl⟩
              case round =>
                obtain ⟨j, hj, rfl, HK⟩ := hrel
                by_cases hjl : j < x.keys.length
                · obtain ⟨y, hy⟩ : ∃ y, x.keys[j]? = some y := ⟨x.keys[j], by simp⟩
                  obtain ⟨g2, o2, C2, q2, rfl, hg2, ⟨e0, e1, e2⟩, hI2⟩ := HI.out j y hy
                  have HY := Lib.hid hy
                  have i2 : (j : Int) < (x.keys.length : Int) := by omega
                  clear hI2 hy
                  by_cases h4 : 30 < y.vals.length
                  · obtain rfl : R = false := by rw [HR.out]; refine all_at HX.out ?_; rw [HE.out]; exact all_at HY.out (by unfold fewK; rw [decide_eq_false (by omega)]; rfl)
                    have j4 : 30 < (y.vals.length : Int) := by omega
                    go_wp2_with fail
                    go_ret
                    exact ⟨rfl, rfl⟩
                  · have j4 : ¬ 30 < (y.vals.length : Int) := by omega
                    by_cases h5 : 100 < y.key.size
                    · obtain rfl : R = false := by rw [HR.out]; refine all_at HX.out ?_; rw [HE.out]; exact all_at HY.out (by unfold fewK; rw [decide_eq_false (p := y.key.size ≤ 100) (by omega)]; simp)
                      have j5 : 100 < (y.key.size : Int) := by omega
                      go_wp2_with fail
                      go_ret
                      exact ⟨rfl, rfl⟩
                    · have j5 : ¬ 100 < (y.key.size : Int) := by omega
                      have HN := Lib.hid (all_take HY.out HK.out (by unfold fewK; rw [decide_eq_true (by omega), decide_eq_true (by omega)]; rfl))
                      go_wp2_with fail
                      go_round
                      case rel => exact ⟨j + 1, by omega, by go_num, HN⟩
                      case measure => simp [intOf]; omega
                · obtain rfl : j = x.keys.length := by omega
                  rw [List.take_length] at HK
                  have HN := Lib.hid (all_take HX.out HJ.out (by rw [HE.out]; exact HK.out))
                  go_wp2_with fail
                  go_round
                  case rel => exact ⟨k + 1, by omega, by go_num, HN⟩
                  case measure => simp [intOf]; omega
      · obtain rfl : k = l.length := by omega
        obtain rfl : R = true := by rw [HR.out]; have := HJ.out; rwa [List.take_length] at this
        go_wp2_with fail
        go_ret
        exact ⟨rfl, rfl⟩
theorem app_void {W : World} {C : Option Addr} {q : Nat} {t : TypeId} : (Builtin.append_ #[37, 37] t #[.slice none 0 0, .slice C 0 q]).run Tryd.prog W = .ok (.slice none 0 0) W := by
  cases C with
  | none => simp [Builtin.append_, run_underlying Tryd.underlying37, sizeOf, Builtin.lenOf, Builtin.firstCells]
  | some a => simp [Builtin.append_, run_underlying Tryd.underlying37, sizeOf, Builtin.lenOf, Builtin.firstCells, loadCells, loadCellsFrom]
theorem wpList_append_void {w : World} {ops : Array Oper} {rest : List Oper} {o : Oper} {a : Act} {Q : Exit → Act → World → Prop} (hgd : o.guard = none) (s x : Operand)
    (ho : o.op = .call { callee := .builtin .append, args := #[s, x], argTypes := #[37, 37] }) (hs : a.eval s = .slice none 0 0) (C : Option Addr) (q : Nat) (hx : a.eval x = .slice C 0 q)
    (h : wpList Tryd.prog ops Q rest (a.put o.dst (.slice none 0 0)) w) : wpList Tryd.prog ops Q (o :: rest) a w := by
  refine wpList_plain hgd fun K hK => ?_
  have hrun := app_void (W := w) (C := C) (q := q) (t := o.type)
  unfold Oper.wp execOp
  simp only [ho, resolve, invoke, builtin, Sem.run_bind, Sem.run_pure, Result.andThen_ok, List.map_toArray, List.map_cons, List.map_nil, hs, hx, hrun]
  exact hK _ _ h
/-- 'append([]int(nil), v...)' of integers. -/
theorem wpList_append_ints {w : World} {ops : Array Oper} {rest : List Oper} {o : Oper} {a : Act} {Q : Exit → Act → World → Prop} (hgd : o.guard = none) (s x : Operand)
    (ho : o.op = .call { callee := .builtin .append, args := #[s, x], argTypes := #[37, 37] }) (hs : a.eval s = .slice none 0 0) (C : Option Addr) (q : Nat) (l : List Int) (hx : a.eval x = .slice C l.length q)
    (hI : IAt w C l) (hl : l.length ≤ 1000000) (h : ∀ A c w', OwnI w' w.heap.size A c l → w.grownBy w' none → wpList Tryd.prog ops Q rest (a.put o.dst (.slice A l.length c)) w') : wpList Tryd.prog ops Q (o :: rest) a w := by
  rcases Nat.eq_zero_or_pos l.length with h0 | h0
  · obtain rfl := List.length_eq_zero_iff.1 h0
    exact wpList_append_void hgd s x ho hs C q hx (h none 0 w (OwnI.nil _ _) ⟨rfl, rfl, rfl, Nat.le_refl _, fun _ _ _ => rfl⟩)
  · obtain ⟨x0, hx0⟩ : ∃ x, l[0]? = some x := ⟨l[0], by simp⟩
    obtain ⟨g, p, rfl, _, _⟩ := hI 0 x0 hx0
    refine wpList_plain hgd fun K hK => ?_
    obtain ⟨i, hi, hz, hsi, hb⟩ := info_parts intInfo
    obtain ⟨v', w', hrun, h2, h3, _, h5⟩ := run_append_own_at (P := Tryd.prog) w w.heap.size 37 o.type 3 i _ 1 8 Tryd.underlying37 hi hz hsi hb rfl (by decide) (.slice none 0 0) 0 [] (World.ownsRow_nil _ _ _ _) ⟨g, p, none⟩ l.length q (l.map (Value.int .i64)) (by simp) (fun j u hu => by
      rw [show (⟨g, p, none⟩ : Addr).add j = ⟨g, p + j, none⟩ by unfold Addr.add; split <;> simp_all]
      rw [List.getElem?_map] at hu
      obtain ⟨z, hz', rfl⟩ := Option.map_eq_some_iff.1 hu
      obtain ⟨g', p', hA, _, hc⟩ := hI j z hz'
      simp only [Option.some.injEq, Addr.mk.injEq, and_true] at hA
      obtain ⟨rfl, rfl⟩ := hA
      exact hc) (by intro u hu; obtain ⟨z, _, rfl⟩ := List.mem_map.1 hu; rfl) (by unfold maxLen; omega) (by omega) (Nat.le_refl _)
    obtain ⟨A', c', rfl⟩ := own_sl h2
    unfold Oper.wp execOp
    simp only [ho, resolve, invoke, builtin, Sem.run_bind, Sem.run_pure, Result.andThen_ok, List.map_toArray, List.map_cons, List.map_nil, hs, hx, hrun]
    refine hK _ _ ?_
    have := h A' c' w' (by unfold OwnI; simpa using h2) h3
    simpa using this
set_option maxRecDepth 100000 in
set_option maxHeartbeats 2000000 in
theorem rget_any (x : IV) (B : Option Addr) (d : Nat) (key : ByteArray) (w : World) (hK : KsAt w B x.keys) (hl : x.keys.length ≤ 1000000) (hv : ∀ k ∈ x.keys, k.vals.length ≤ 1000) :
    Calls Tryd.prog 16 #[vOfX x B d, .string key] w (GetOut (getR x.keys key) w) := by
  obtain ⟨i0, hi0, hy0, hy1, hy2⟩ := info_parts intInfo
  obtain ⟨ks, hks⟩ : ∃ ks, ks = x.keys := ⟨_, rfl⟩
  obtain ⟨R, hR⟩ : ∃ R, R = getR ks key := ⟨_, rfl⟩
  unfold vOfX
  rw [← hks] at hK hl hv ⊢
  rw [← hR]
  have HR : Hid (getR (ks.drop 0) key = R) := Lib.hid (by rw [hR]; rfl)
  have HK := Lib.hid hK
  have HV := Lib.hid hv
  clear hR hks hK hv
  go_enter Tryd.func16, Tryd.ntmps16; (try simp only [List.append_eq, List.cons_append, List.nil_append])
  go_wp2_with fail
  go_loop [6] (fun t => ∃ k : Nat, k ≤ ks.length ∧ t = .int .i64 k ∧ Hid (getR (ks.drop k) key = R)) (fun t => ks.length - (intOf t).toNat)
  case atStart => exact ⟨0, by omega, rfl, HR⟩
  case round =>
    obtain ⟨k, hk, rfl, HJ⟩ := hrel
    by_cases hlt : k < ks.length
    · obtain ⟨p, hp⟩ : ∃ p, ks[k]? = some p := ⟨ks[k], by simp⟩
      obtain ⟨g, o, C, q, rfl, hg, ⟨c0, c1, c2⟩, hI⟩ := HK.out k p hp
      have hst := getR_step (key := key) hp
      have HI := Lib.hid hI
      have i1 : (k : Int) < (ks.length : Int) := by omega
      have hvl := HV.out p (List.mem_of_getElem? hp)
      clear hI
      by_cases he : p.key = key
      · rw [if_pos he] at hst
        have b1 : (p.key.toList == key.toList) = true := by rw [he]; exact beq_self_eq_true _
        obtain rfl : R = some p.vals := by rw [← HJ.out]; exact hst
        clear hst he HJ HR
        go_wp2_with (at_builtin; go_must (refine wpList_append_ints rfl _ _ rfl rfl C q p.vals rfl (HI.out.below ((Below.refl w.heap.size w).alloc (Nat.le_refl _) _) (Nat.le_refl _)) (by omega) ?_))
        intro A7 c7 w7 ho7 hg7
        have hb7 : Below w.heap.size w w7 := ((Below.refl w.heap.size w).alloc (Nat.le_refl _) _).grown hg7 (by simp) (fun k hk => by cases hk)
        go_wp2_with fail
        go_ret2
        exact ⟨hb7, A7, c7, rfl, ho7.weaker (by simp)⟩
      · rw [if_neg he] at hst
        have b1 : (p.key.toList == key.toList) = false := txt_neT he
        have hnx := Lib.hid (hst.symm.trans HJ.out)
        clear hst he HR HJ
        go_wp2_with fail
        go_round
        case rel => exact ⟨k + 1, by omega, by go_num, hnx⟩
        case measure => simp [intOf]; omega
    · obtain rfl : k = ks.length := by omega
      obtain rfl : R = none := by rw [← HJ.out, List.drop_length]; rfl
      go_wp2_with fail
      go_ret2
      refine ⟨?_, rfl⟩
      ((with_reducible (repeat (first | exact bR _ _ | refine bS ?_ ?_ _ | refine bA ?_ ?_ _ | refine bD ?_ | refine bT ?_ (by assumption) ?_ | refine bO (by assumption) ?_ ?_))) <;> (first | omega | (simp; done) | (simp <;> omega)))
end Go.Proofs.YteondblmcooklaaDoor
