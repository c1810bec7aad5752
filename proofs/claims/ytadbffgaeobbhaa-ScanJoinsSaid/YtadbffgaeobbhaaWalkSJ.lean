/- The walk of ScanJoins. -/
import Derived.Test.YtadbffgaeobbhaaWalkSA
import Derived.Test.YtadbffgaeobbhaaScanJR
import Derived.Deep.RegionHeld3
import Derived.Deep.AppendLies
namespace Go.Proofs.Ytadbffgaeobbhaa
open Go.RowKit
set_option linter.unusedVariables false
def cellsOfI (x : WI) : List Value := [.int .i64 x.kind, .string x.text, .int .i64 x.num, .int .i64 x.at_]
def flatI (l : List WI) : List Value := l.flatMap cellsOfI
theorem flatI_snoc (l : List WI) (x : WI) : flatI (l ++ [x]) = flatI l ++ cellsOfI x := by simp [flatI]
theorem flatI_len (l : List WI) : (flatI l).length = l.length * 4 := by
  induction l with
  | nil => rfl
  | cons x l ih => simp only [flatI, List.flatMap_cons, List.length_append, List.length_cons] at *; rw [ih]; simp [cellsOfI]; omega
theorem flatI_get {l : List WI} {k j : Nat} {x : WI} (h : l[k]? = some x) (hj : j < 4) : (flatI l)[k * 4 + j]? = (cellsOfI x)[j]? := by
  induction l generalizing k with
  | nil => simp at h
  | cons y l ih =>
    simp only [flatI, List.flatMap_cons]
    cases k with
    | zero =>
      simp only [List.getElem?_cons_zero, Option.some.injEq] at h
      subst h
      rw [List.getElem?_append_left (by simp [cellsOfI]; omega)]
      simp
    | succ k =>
      simp only [List.getElem?_cons_succ] at h
      rw [List.getElem?_append_right (by simp [cellsOfI]; omega)]
      have := ih h
      simp only [flatI] at this
      rw [← this]
      congr 1
      simp [cellsOfI]; omega
theorem own_wsAt {w : World} {base : Nat} {e : TypeId} {cap g : Nat} {l : List WI} (h : w.ownsRow base e 4 (.slice (some ⟨g, 0, none⟩) l.length cap) l.length (flatI l)) : WsAt w g 0 l := by
  intro k x hx
  have hk := (List.getElem?_eq_some_iff.1 hx).1
  rw [Nat.zero_add]
  refine ⟨?_, ?_, ?_, ?_⟩
  · rw [h.cellAt (k * 4) (by omega)]; exact flatI_get (j := 0) hx (by omega)
  · rw [h.cellAt (k * 4 + 1) (by omega)]; exact flatI_get hx (by omega)
  · rw [h.cellAt (k * 4 + 2) (by omega)]; exact flatI_get hx (by omega)
  · rw [h.cellAt (k * 4 + 3) (by omega)]; exact flatI_get hx (by omega)
def wv (x : WI) : WV := ⟨x.kind, x.text, x.num, 0⟩
theorem joined_words {l : List WI} (hok : JoinOk l) : ∃ m : List WV, scanR (J (txts l)) = (m, 0, 0) ∧ m.length = l.length ∧ ∀ (k : Nat) (x : WI) (y : WV), l[k]? = some x → m[k]? = some y → y.text = x.text ∧ y.num = x.num := by
  have e : (l.map wv).map (·.text) = txts l := by simp [txts, wv, Function.comp_def]
  obtain ⟨m, h1, h2⟩ := scanR_join (l.map wv) (by
    intro x hx
    obtain ⟨z, hz, rfl⟩ := List.mem_map.1 hx
    exact isW_ok (hok.1 z hz)) (by rw [e]; exact hok.2)
  rw [e] at h1
  have hl : m.length = l.length := by have := congrArg List.length h2; simpa using this
  refine ⟨m, h1, hl, fun k x y hx hy => ?_⟩
  have := congrArg (fun q => q[k]?) h2
  simp only [List.getElem?_map, hx, hy, Option.map_some, Option.some.injEq, Prod.mk.injEq] at this
  exact ⟨this.2.1, this.2.2⟩
set_option maxHeartbeats 400000 in
theorem joins_big (A : Option Addr) (n c : Nat) (w : World) (hn : 200 < n) (hn2 : n ≤ maxLen) :
    Calls Try.prog 6 #[.slice A n c] w fun e w' => e = .returned (.bool true) ∧ Below w.heap.size w w' := by
  unfold maxLen at hn2
  go_enter Try.func6, Try.ntmps6; (try simp only [List.append_eq, List.cons_append, List.nil_append])
  go_wp2_with (go_at_call 8; refine (awake07_any _).mono ?_; rintro e w1 ⟨rfl, hb1⟩; have z1 := hb1.size)
  go_ret
  exact ⟨rfl, by (repeat (first | (with_reducible exact Below.refl _ _) | (with_reducible refine Below.setCell ?_ ?_ _) | (with_reducible refine Below.alloc ?_ ?_ _) | (with_reducible refine Below.drew ?_) | (with_reducible refine Below.trans ?_ (Below.mono (by assumption) ?_)) | (with_reducible refine Own.below (by assumption) ?_ ?_))) <;> (first | omega | (simp; done) | (simp <;> omega))⟩
theorem scan_nil : scanR ⟨#[]⟩ = ([], 0, 0) := by
  unfold scanR
  rw [if_neg (by decide)]
  exact scanF_end (by decide)
set_option maxRecDepth 100000 in
set_option maxHeartbeats 1000000 in
theorem joins_none (A : Option Addr) (c : Nat) (w : World) :
    Calls Try.prog 6 #[.slice A 0 c] w fun e w' => e = .returned (.bool true) ∧ Below w.heap.size w w' := by
  go_enter Try.func6, Try.ntmps6; (try simp only [List.append_eq, List.cons_append, List.nil_append])
  go_wp2_with fail
  (go_at_call 8; refine (awake07_any _).mono ?_; rintro e w1 ⟨rfl, hb1⟩)
  have z1 := hb1.size
  go_wp2_with fail
  refine wp_loop_rounds 1 ?_
  rw [rounds_succ]
  go_wp2_with fail
  (go_at_call 14; refine (join_none _ _ _).mono ?_; rintro e w2 ⟨hb2, hj⟩)
  have z2 := hb2.size
  have hnot : JoinOk [] := ⟨by simp, by decide⟩
  rcases hj with ⟨rfl, -⟩ | ⟨rfl, hno⟩
  · go_wp2_with fail
    (go_at_call 15; refine (rjoin_none _ _ _).mono ?_; rintro e w3 ⟨hb3, hj⟩)
    have z3 := hb3.size
    rcases hj with ⟨rfl, -⟩ | ⟨rfl, hno⟩
    · rw [show J (txts []) = ⟨#[]⟩ from rfl]
      go_wp2_with fail
      (go_at_call 9; refine (words_any _ _ (by decide)).mono ?_; rintro e w4 ⟨hb4, v2, rfl, hv2⟩)
      have z4 := hb4.size
      rw [scan_nil] at hv2 ⊢
      rcases own_form hv2 with ⟨_, A2, c2, rfl⟩ | ⟨hn2, _⟩
      · go_wp2_with fail
        refine wp_loop_rounds 1 ?_
        rw [rounds_succ]
        go_wp2_with fail
        go_ret
        refine ⟨rfl, ?_⟩
        (repeat (first | (with_reducible exact Below.refl _ _) | (with_reducible refine Below.setCell ?_ ?_ _) | (with_reducible refine Below.alloc ?_ ?_ _) | (with_reducible refine Below.drew ?_) | (with_reducible refine Below.trans ?_ (Below.mono (by assumption) ?_)) | (with_reducible refine Own.below (by assumption) ?_ ?_))) <;> (first | omega | (simp; done) | (simp <;> omega))
      · simp at hn2
    · exact absurd hnot hno
  · exact absurd hnot hno
set_option maxRecDepth 100000 in
set_option maxHeartbeats 2000000 in
theorem joins_some (l : List WI) (g o c : Nat) (w : World) (hn : 0 < l.length) (hl : l.length ≤ 200) (hg : g < w.heap.size) (hW : WsAt w g o l) (hs : ∀ x ∈ l, x.text.size ≤ maxLen) :
    Calls Try.prog 6 #[.slice (some ⟨g, o, none⟩) l.length c] w fun e w' => e = .returned (.bool true) ∧ Below w.heap.size w w' := by
  obtain ⟨i0, hi0, hy0, hy1, hy2⟩ := info_parts rwordInfo
  have HW := Lib.hid hW
  have HS := Lib.hid hs
  clear hW hs
  go_enter Try.func6, Try.ntmps6; (try simp only [List.append_eq, List.cons_append, List.nil_append])
  go_wp2_with fail
  (go_at_call 8; refine (awake07_any _).mono ?_; rintro e w1 ⟨rfl, hb1⟩)
  have z1 := hb1.size
  have HB1 := Lib.hid hb1
  clear hb1
  go_wp2_with fail
  go_loopw [3, 4] (fun v t wr => ∃ k : Nat, k ≤ l.length ∧ t = .int .i64 k ∧ wr.ownsRow w.heap.size 35 4 v k (flatI (l.take k)) ∧ Below w.heap.size w wr ∧ Hid (∀ x ∈ l.take k, x.text.size ≤ 400)) (fun _ t _ => l.length - (intOf t).toNat)
  case atStart => exact ⟨0, by omega, rfl, World.ownsRow_nil _ _ _ _, HB1.out, Lib.hid (by simp)⟩
  case round =>
    obtain ⟨k, hk, rfl, hown, hbel, HO⟩ := hrel
    have hz := hbel.size
    by_cases hlt : k < l.length
    · obtain ⟨x, hx⟩ : ∃ x, l[k]? = some x := ⟨l[k], by simp⟩
      obtain ⟨a0, a1, a2, a3⟩ := (HW.out.below hbel hg) k x hx
      have hxs := HS.out x (List.mem_of_getElem? hx)
      unfold maxLen at hxs
      have HX := Lib.hid hx
      have HB := Lib.hid hbel
      have i1 : (0 : Int) ≤ (k : Int) := by omega
      have i2 : (k : Int) < (l.length : Int) := by omega
      have l1 : g < wr.heap.size := by omega
      by_cases h4 : 400 < x.text.size
      · clear hx hbel hown
        go_wp2_with fail
        (go_at_call 8; refine (awake07_any _).mono ?_; rintro e w2 ⟨rfl, hb2⟩)
        go_wp2_with fail
        go_ret
        exact ⟨rfl, HB.out.trans (hb2.mono hz)⟩
      · have HV := Lib.hid hown
        clear hx hbel hown
        have l2 : g < wr.heap.size + 1 := by omega
        go_wp2_with fail
        have ne1 : u3.ownBlock ≠ some g := fun e => by have := (HV.out.lt _ e).1; omega
        go_region_held3 (fun w' => w'.cell? ⟨g, o + k * 4, none⟩ = some (.int .i64 x.kind) ∧ w'.cell? ⟨g, o + k * 4 + 1, none⟩ = some (.string x.text) ∧ w'.cell? ⟨g, o + k * 4 + 2, none⟩ = some (.int .i64 x.num) ∧ w'.cell? ⟨g, o + k * 4 + 3, none⟩ = some (.int .i64 x.at_))
          (first
            | go_keep
            | (go_split_ands
               refine ⟨?_, ?_, ?_, ?_⟩
               · (rw [hgrow.cell_far _ (by simp; omega) (Ne.symm ne1)]; assumption)
               · (rw [hgrow.cell_far _ (by simp; omega) (Ne.symm ne1)]; assumption)
               · (rw [hgrow.cell_far _ (by simp; omega) (Ne.symm ne1)]; assumption)
               · (rw [hgrow.cell_far _ (by simp; omega) (Ne.symm ne1)]; assumption)))
          ((refine step_append_lies _ (by rfl) _ _ _ (by rfl) w.heap.size 35 i0 _ 4 40 Try.underlying27 hi0 hy0 hy1 hy2 rfl (by omega) u3 k (flatI (l.take k)) (by rfl) ((HV.out.alloc _).drew)
              ⟨wr.heap.size, 0, none⟩ 1 1 (cellsOfI x) (by rfl) (by rfl) (World.news_of_block (cs := (cellsOfI x).toArray) (t := 35) (fr := (0, 0)) (heap_alloc_new wr _)) (by simp [Value.oneCell', cellsOfI])
              (by omega) (by unfold maxLen; omega) (by omega) (by simp; omega) (wr.heap.size + 1) (by simp) ?_; intro gg cap w2 hown2 hgrow hat hlt2))
        have hbel2 : Below w.heap.size w w2 := ((HB.out.alloc (by omega) _).drew).grown hgrow (by simp; omega) (own_fresh HV.out)
        clear hgrow
        go_wp2_with fail
        go_roundw
        case rel =>
          have ht : l.take (k + 1) = l.take k ++ [x] := by rw [List.take_add_one, HX.out]; rfl
          refine ⟨k + 1, by omega, by go_num, ?_, hbel2, Lib.hid ?_⟩
          · rw [ht, flatI_snoc]; exact hown2
          · rw [ht]
            intro z hz
            rcases List.mem_append.1 hz with h | h
            · exact HO.out z h
            · obtain rfl : z = x := by simpa using h
              omega
        case measure => simp [intOf]; omega
    · obtain rfl : k = l.length := by omega
      rw [List.take_length] at hown HO
      rcases own_form hown with ⟨hn0, _⟩ | ⟨_, g1, c1, rfl, k1, k1'⟩
      · omega
      · have HB := Lib.hid hbel
        have hws := own_wsAt hown
        have hla := HW.out.below hbel hg
        have HV := Lib.hid hws
        have HA := Lib.hid hla
        have l1 : g < wr.heap.size := by omega
        have ht400 : ∀ x ∈ l, x.text.size ≤ 20000 := fun x hx => by have := HO.out x hx; omega
        have HT := Lib.hid ht400
        clear hbel hown hws hla ht400
        go_wp2_with fail
        (go_at_call 14; refine (join_some l g o c _ hn (by omega) l1 HA.out HT.out).mono ?_; rintro e w2 ⟨hb2, hj⟩)
        have z2 := hb2.size
        have HV2 := Lib.hid (HV.out.below hb2 k1)
        have HA2 := Lib.hid (HA.out.below hb2 l1)
        have HB2 := Lib.hid (HB.out.trans (hb2.mono hz))
        clear hb2
        have hrj := rjoin_some l g1 0 c1 w2 hn (by omega) (by omega) HV2.out HT.out
        rcases hj with ⟨rfl, hok⟩ | ⟨rfl, hno⟩
        · obtain ⟨m, hm1, hml, hmk⟩ := joined_words hok
          have hJs := hok.2
          obtain ⟨T, hT⟩ : ∃ T, T = J (txts l) := ⟨_, rfl⟩
          unfold JoinOut at hrj
          rw [← hT] at hm1 hJs hrj ⊢
          have HK := Lib.hid hok
          have HMK := Lib.hid hmk
          obtain ⟨pl, hpl⟩ : ∃ p : Nat, p = 0 := ⟨_, rfl⟩
          rw [← hpl] at hm1
          have HM1 := Lib.hid hm1
          have HR := Lib.hid hrj
          clear hT hok hmk hpl hm1 hrj
          go_wp2_with fail
          (go_at_call 15; refine HR.out.mono ?_; rintro e w3 ⟨hb3, hj⟩)
          have z3 := hb3.size
          have HA3 := Lib.hid (HA2.out.below hb3 (by omega))
          have HB3 := Lib.hid (HB2.out.trans (hb3.mono (by omega)))
          clear hb3
          rcases hj with ⟨rfl, -⟩ | ⟨rfl, hno⟩
          · go_wp2_with fail
            (go_at_call 9; refine (words_any _ _ (by unfold maxLen; omega)).mono ?_; rintro e w4 ⟨hb4, v2, rfl, hv2⟩)
            rw [HM1.out] at hv2 ⊢
            simp only at hv2 ⊢
            have z4 := hb4.size
            have HA4 := Lib.hid (HA3.out.below hb4 (by omega))
            have HB4 := Lib.hid (HB3.out.trans (hb4.mono (by omega)))
            have HV4 := Lib.hid hv2
            have hg2 := own_form hv2
            clear hb4 hv2
            rw [hml] at HV4 hg2
            rcases hg2 with ⟨hn2, _⟩ | ⟨_, g2, c2, rfl, k2, _⟩
            · omega
            · have hl0 : ((l.length : Int) != (l.length : Int)) = false := by simp
              go_wp2_with fail
              go_loopw [12] (fun t wr => ∃ k : Nat, k ≤ l.length ∧ t = .int .i64 k ∧ Below w4.heap.size w4 wr) (fun t _ => l.length - (intOf t).toNat)
              case atStart => exact ⟨0, by omega, rfl, Below.refl _ _⟩
              case round =>
                obtain ⟨k, hk, rfl, hb⟩ := hrel
                by_cases hlt : k < l.length
                · obtain ⟨x, hx⟩ : ∃ x, l[k]? = some x := ⟨l[k], by simp⟩
                  obtain ⟨y, hy⟩ : ∃ y, m[k]? = some y := ⟨m[k]'(by omega), by simp⟩
                  obtain ⟨a0, a1, a2, a3⟩ := word_cells HV4.out hy hlt
                  rw [← hb.cell (by simpa using k2)] at a0 a1 a2 a3
                  obtain ⟨d0, d1, d2, d3⟩ := (HA4.out.below hb (by omega)) k x hx
                  obtain ⟨e1, e2⟩ := HMK.out k x y hx hy
                  rw [e1] at a1
                  rw [e2] at a2
                  have hzr := hb.size
                  have HBq := Lib.hid hb
                  have i1 : (0 : Int) ≤ (k : Int) := by omega
                  have i2 : (k : Int) < (l.length : Int) := by omega
                  have l3 : g < wr.heap.size := by omega
                  have l4 : g2 < wr.heap.size := by omega
                  clear hx hy hb a0 a3 d0 d3 e1 e2
                  go_wp2_with fail
                  refine wp_region_warm (Own wr.heap.size wr) (by kernel_rfl) (by kernel_rfl) (Own.refl (Nat.le_refl _)).drew ?_
                  repeat (first | (refine wpWarm_step_off rfl (fun K hK => ?_); (go_simp; refine hK _ ?_; clear hK K)) | (apply wpWarm_step rfl; (focus (intro W' hS; have hcS := hS.cells.1; have hfS := hS.cells.2; go_simp; (first | done | exact rfl | exact ⟨rfl, hS⟩ | (go_simp; exact rfl)))); (intro K hK; go_simp; (try go_bits); refine hK _ ?_; clear hK K)) | (apply wpWarm_step_on rfl; (focus (intro W' hS; have hcS := hS.cells.1; have hfS := hS.cells.2; go_simp; (first | done | exact rfl | exact ⟨rfl, hS⟩ | (go_simp; exact rfl)))); (intro K hK; go_simp; (try go_bits); refine hK _ ?_; clear hK K)))
                  refine wpWarm_nil ?_
                  intro w5 hO
                  have HO5 := Lib.hid hO
                  clear hO
                  go_wp2_with fail
                  go_roundw
                  case rel => exact ⟨k + 1, by omega, by go_num, HBq.out.trans (HO5.out.2.mono (by omega))⟩
                  case measure => simp [intOf]; omega
                · obtain rfl : k = l.length := by omega
                  have HBq := Lib.hid hb
                  clear hb
                  go_wp2_with fail
                  go_ret
                  exact ⟨rfl, HB4.out.trans (HBq.out.mono (by omega))⟩
          · exact absurd HK.out hno
        · have HN := Lib.hid hno
          have HR := Lib.hid hrj
          clear hrj
          go_wp2_with fail
          (go_at_call 15; refine HR.out.mono ?_; rintro e w3 ⟨hb3, hj⟩)
          rcases hj with ⟨rfl, hok⟩ | ⟨rfl, -⟩
          · exact absurd hok HN.out
          · go_wp2_with fail
            go_ret
            exact ⟨rfl, HB2.out.trans (hb3.mono (by omega))⟩
end Go.Proofs.Ytadbffgaeobbhaa
