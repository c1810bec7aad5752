/- Merged texts: ClG ClH ClX ClN (what no proof of the claim needs is left out). -/
import Derived.Test.YtgejdaincnclpaaCb5
namespace Go.Proofs.Ytgejdaincnclpaa
open Go Go.RowKit
set_option linter.unusedVariables false
/-- A block of flags. -/
def DAt (w : World) (D : Nat) (d : List Bool) : Prop := D < w.heap.size ∧ (∀ o, w.frozen? ⟨D, o, none⟩ = false) ∧ ∀ j x, d[j]? = some x → w.cell? ⟨D, j, none⟩ = some (.bool x)
theorem DAt.block {w w' : World} {D : Nat} {d : List Bool} (h : DAt w D d) (hs : w.heap.size ≤ w'.heap.size) (hb : w'.heap[D]? = w.heap[D]?) : DAt w' D d :=
  ⟨Nat.lt_of_lt_of_le h.1 hs, fun o => (World.frozen?_of_block (a := ⟨D, o, none⟩) hb).trans (h.2.1 o), fun j x hx => (World.cell?_of_block (a := ⟨D, j, none⟩) hb).trans (h.2.2 j x hx)⟩
theorem DAt.below {w w' : World} {D B : Nat} {d : List Bool} (h : DAt w D d) (hb : Below B w w') (hD : D < B) : DAt w' D d := h.block hb.size (hb.block D hD)
theorem DAt.alloc {w : World} {D : Nat} {d : List Bool} (h : DAt w D d) (o : Obj) : DAt (w.alloc o) D d := h.block (by simp) (heap_alloc_old w o h.1)
theorem DAt.grown {w w' : World} {D : Nat} {d : List Bool} {row : Option Nat} (h : DAt w D d) (hg : w.grownBy w' row) (hne : some D ≠ row) : DAt w' D d := h.block hg.size (hg.block D h.1 hne)
theorem DAt.set {w : World} {D k : Nat} {d : List Bool} {b x : Bool} (h : DAt w D d) (hk : d[k]? = some x) : DAt (w.setCell ⟨D, k, none⟩ (.bool b)) D (d.set k b) := by
  have hc := h.2.2 k x hk
  refine ⟨by simpa using h.1, fun o => by go_simp; exact h.2.1 o, fun j y hy => ?_⟩
  rw [List.getElem?_set] at hy
  by_cases e : k = j
  · subst e
    rw [if_pos rfl, if_pos (List.getElem?_eq_some_iff.1 hk).1] at hy
    obtain rfl := Option.some.inj hy
    go_simp
  · rw [if_neg e] at hy
    have := h.2.2 j y hy
    have e2 : (⟨D, k, none⟩ : Addr) ≠ ⟨D, j, none⟩ := fun h => e (congrArg Addr.off h)
    first | (go_simp; exact this) | (go_simp; rw [if_neg e]; exact this) | (go_simp; done) | simp_all
theorem madeB_get (n j : Nat) : (madeCells #[Value.bool false] n)[j]? = if j < n then some (.bool false) else none := by
  unfold madeCells
  by_cases h : j < n
  · rw [if_pos h]; simp [h, Nat.mod_one]
  · rw [if_neg h]; simp; omega
theorem DAt.made (w : World) (n : Nat) (e : TypeId) : DAt (w.alloc (.cells (madeCells #[Value.bool false] n) e)) w.heap.size (List.replicate n false) := by
  refine ⟨by simp, fun o => by go_simp, fun j x hx => ?_⟩
  rw [List.getElem?_replicate] at hx
  split at hx
  · rename_i hj
    obtain rfl := Option.some.inj hx
    rw [cell_of_row (w.alloc _) w.heap.size j _ e (0, 0) (heap_alloc_new w _), madeB_get, if_pos hj]
  · cases hx
/-- The blocks from base to top are as they were. -/
def Same (base top : Nat) (w w' : World) : Prop := w.heap.size ≤ w'.heap.size ∧ ∀ b, base ≤ b → b < top → w'.heap[b]? = w.heap[b]?
theorem Same.refl (base top : Nat) (w : World) : Same base top w w := ⟨Nat.le_refl _, fun _ _ _ => rfl⟩
theorem Same.trans {base top : Nat} {a b c : World} (h : Same base top a b) (g : Same base top b c) : Same base top a c := ⟨Nat.le_trans h.1 g.1, fun k h1 h2 => (g.2 k h1 h2).trans (h.2 k h1 h2)⟩
theorem Same.below {base top B : Nat} {a b c : World} (h : Same base top a b) (g : Below B b c) (hB : top ≤ B) : Same base top a c := h.trans ⟨g.size, fun k _ h2 => g.block k (by omega)⟩
theorem Same.grown {base top : Nat} {a b c : World} {row : Option Nat} (h : Same base top a b) (g : b.grownBy c row) (hr : ∀ k, row = some k → top ≤ k) (ht : top ≤ b.heap.size) : Same base top a c :=
  h.trans ⟨g.size, fun k _ h2 => g.block k (by omega) (fun e => by have := hr k e.symm; omega)⟩
theorem Same.alloc {base top : Nat} {a b : World} (h : Same base top a b) (ht : top ≤ b.heap.size) (o : Obj) : Same base top a (b.alloc o) := h.trans ⟨by simp, fun k _ h2 => heap_alloc_old b o (by omega)⟩
theorem Same.low {base top : Nat} {a b : World} (h : Same base top a b) {p : Addr} (hp : p.block < base) (u : Value) : Same base top a (b.setCell p u) := h.trans ⟨by simp, fun k h1 h2 => Below.heap_setCell _ _ _ _ (by omega)⟩
theorem ownsRow_block {w w' : World} {base size n : Nat} {e : TypeId} {v : Value} {xs : List Value} (h : w.ownsRow base e size v n xs) (hs : ∀ b, v.ownBlock = some b → w'.heap[b]? = w.heap[b]?) : w'.ownsRow base e size v n xs := by
  refine ⟨h.1, ?_⟩
  rcases h.2 with hn | ⟨g, cap, cur, rfl, hb, hgg, rest⟩
  · exact .inl hn
  · exact .inr ⟨g, cap, cur, rfl, hb, by rw [hs g rfl]; exact hgg, rest⟩
/-- A list of lists of one's own; its blocks lie between base and top. -/
def GsOwn (w : World) (base top : Nat) (A : Option Addr) (c : Nat) (gs : List (List Int)) : Prop :=
  ∃ vs : List Value, w.ownsRow base 27 1 (.slice A gs.length c) gs.length vs ∧ vs.length = gs.length ∧ (∀ b, Value.ownBlock (.slice A gs.length c) = some b → b < top) ∧
    ∀ (k : Nat) (g : List Int), gs[k]? = some g → ∃ B d, vs[k]? = some (Value.slice B g.length d) ∧ OwnI w base B d g ∧ ∀ b, Value.ownBlock (.slice B g.length d) = some b → b < top
theorem GsOwn.nil (w : World) (base top : Nat) : GsOwn w base top none 0 [] := ⟨[], World.ownsRow_nil _ _ _ _, rfl, fun b h => by simp [Value.ownBlock] at h, fun k g h => by simp at h⟩
theorem GsOwn.same {w w' : World} {base top : Nat} {A : Option Addr} {c : Nat} {gs : List (List Int)} (h : GsOwn w base top A c gs) (hs : Same base top w w') : GsOwn w' base top A c gs := by
  obtain ⟨vs, h1, h2, h3, h4⟩ := h
  refine ⟨vs, ownsRow_block h1 fun b hb => hs.2 b (h1.lt b hb).1 (h3 b hb), h2, h3, fun k g hk => ?_⟩
  obtain ⟨B, d, e1, e2, e3⟩ := h4 k g hk
  exact ⟨B, d, e1, ownsRow_block e2 fun b hb => hs.2 b (e2.lt b hb).1 (e3 b hb), e3⟩
theorem GsOwn.snoc {w w' : World} {base top : Nat} {A : Option Addr} {c : Nat} {gs : List (List Int)} {B : Option Addr} {d : Nat} {g : List Int} {vs : List Value} {v' : Value} (ht : top ≤ w.heap.size)
    (h1 : w.ownsRow base 27 1 (.slice A gs.length c) gs.length vs) (h2 : vs.length = gs.length)
    (h4 : ∀ (k : Nat) (g : List Int), gs[k]? = some g → ∃ B d, vs[k]? = some (Value.slice B g.length d) ∧ OwnI w base B d g ∧ ∀ b, Value.ownBlock (.slice B g.length d) = some b → b < top)
    (hg : OwnI w base B d g) (hw : w'.ownsRow base 27 1 v' (gs.length + 1) (vs ++ [Value.slice B g.length d])) (hgr : w.grownBy w' (Value.ownBlock (.slice A gs.length c))) :
    ∃ A' c', v' = .slice A' (gs ++ [g]).length c' ∧ GsOwn w' base w'.heap.size A' c' (gs ++ [g]) := by
  obtain ⟨A', c', rfl⟩ := own_slice hw
  refine ⟨A', c', by simp, vs ++ [Value.slice B g.length d], by simpa using hw, by simp [h2], fun b hb => ?_, fun k x hx => ?_⟩
  · have := (hw.lt b (by simpa [Value.ownBlock] using hb)).2
    exact this
  · rcases Nat.lt_or_ge k gs.length with hk | hk
    · rw [List.getElem?_append_left hk] at hx
      obtain ⟨B', d', e1, e2, e3⟩ := h4 k x hx
      have e2' : OwnI w' base B' d' x := OwnI.kept e2 hgr (rowsApart e2 h1 (by decide))
      refine ⟨B', d', by rw [List.getElem?_append_left (by omega)]; exact e1, e2', fun b hb => (World.ownsRow.lt e2' b hb).2⟩
    · rw [List.getElem?_append_right hk] at hx
      have hk0 : k = gs.length := by
        have := (List.getElem?_eq_some_iff.1 hx).1
        simp at this; omega
      subst hk0
      rw [Nat.sub_self] at hx
      simp only [List.getElem?_cons_zero, Option.some.injEq] at hx
      subst hx
      have e2' : OwnI w' base B d g := OwnI.kept hg hgr (rowsApart hg h1 (by decide))
      exact ⟨B, d, by rw [← h2]; simp, e2', fun b hb => (World.ownsRow.lt e2' b hb).2⟩
/-- An address leads to lists of integers. -/
def GsAt (w : World) (A : Option Addr) (gs : List (List Int)) : Prop := ∀ (k : Nat) (g : List Int), gs[k]? = some g → ∃ b o B d, A = some ⟨b, o, none⟩ ∧ b < w.heap.size ∧ w.cell? ⟨b, o + k, none⟩ = some (.slice B g.length d) ∧ IAt w B g
theorem GsAt.below {w w1 : World} {A : Option Addr} {l : List (List Int)} {B : Nat} (h : GsAt w A l) (hb : Below B w w1) (hB : w.heap.size ≤ B) : GsAt w1 A l := fun k x hx => by
  obtain ⟨b, o, C, d, hA, hg, h0, h1⟩ := h k x hx
  exact ⟨b, o, C, d, hA, Nat.lt_of_lt_of_le hg hb.size, (hb.cell (p := ⟨b, o + k, none⟩) (Nat.lt_of_lt_of_le hg hB)).trans h0, h1.below hb hB⟩
theorem GsOwn.at {w : World} {base top : Nat} {A : Option Addr} {c : Nat} {gs : List (List Int)} (h : GsOwn w base top A c gs) : GsAt w A gs := fun k g hk => by
  obtain ⟨vs, h1, h2, h3, h4⟩ := h
  obtain ⟨B, d, e1, e2, e3⟩ := h4 k g hk
  have hk' := (List.getElem?_eq_some_iff.1 hk).1
  rcases own_formS h1 with ⟨hn, _⟩ | ⟨_, b, c', hv, _, hb, _⟩
  · omega
  · simp only [Value.slice.injEq, true_and] at hv
    obtain ⟨rfl, rfl⟩ := hv
    refine ⟨b, 0, B, d, rfl, hb, ?_, e2.iat⟩
    rw [Nat.zero_add, World.ownsRow.cellAt h1 k (by omega)]
    exact e1
def GOut (gs : List (List Int)) (w : World) (e : Ending) (w' : World) : Prop := Below w.heap.size w w' ∧ ∃ A c, e = .returned (.slice A gs.length c) ∧ GsAt w' A gs
/-- Which contacts share a ball, by their numbers. -/
def shL (l : List Ct) (a b : Nat) : Bool := match l[a]?, l[b]? with
  | some x, some y => shareB x y
  | _, _ => false
theorem shL_symm (l : List Ct) (a b : Nat) : shL l a b = shL l b a := by
  unfold shL
  cases l[a]? <;> cases l[b]? <;> first | rfl | exact shareB_symm _ _
theorem shL_get {l : List Ct} {a b : Nat} {x y : Ct} (h1 : l[a]? = some x) (h2 : l[b]? = some y) : shL l a b = shareB x y := by
  unfold shL; rw [h1, h2]
noncomputable def groupsL (l : List Ct) (m : Nat) : List (List Int) := (groupsTo l.length (shL l) m).map natI
theorem infB : (Try.prog.info? 4).map (fun i => (i.zero, i.size, i.bytes)) = some (some (.bool false), 1, 1) := by kernel_rfl
theorem infIs : (Try.prog.info? 27).map (fun i => (i.zero, i.size, i.bytes)) = some (some (.slice none 0 0), 1, 24) := by kernel_rfl
theorem groupsL_old {l : List Ct} {m : Nat} (h : Old l.length (shL l) m m) : groupsL l (m + 1) = groupsL l m := by unfold groupsL; rw [groupsTo_old h]
theorem groupsL_new {l : List Ct} {m : Nat} (h : ¬ Old l.length (shL l) m m) : groupsL l (m + 1) = groupsL l m ++ [natI (grpOf l.length (shL l) m)] := by unfold groupsL; rw [groupsTo_new h, List.map_append]; rfl
theorem groupsL_len (l : List Ct) (m : Nat) : (groupsL l m).length ≤ m := by unfold groupsL; rw [List.length_map]; exact groupsTo_len _ _ _
theorem natI_len (l : List Nat) : (natI l).length = l.length := by simp [natI]
theorem natI_get {l : List Nat} {k a : Nat} (h : l[k]? = some a) : (natI l)[k]? = some (a : Int) := by unfold natI; rw [List.getElem?_map, h]; rfl
theorem natI_snoc (l : List Nat) (k : Nat) : natI (l ++ [k]) = natI l ++ [(k : Int)] := by simp [natI]
end Go.Proofs.Ytgejdaincnclpaa
namespace Go.Proofs.Ytgejdaincnclpaa
open Go Go.RowKit
set_option linter.unusedVariables false
set_option maxRecDepth 100000 in
set_option maxHeartbeats 40000000 in
theorem groups_any (l : List Ct) (A : Option Addr) (c : Nat) (w : World) (hV : CAt w A l) (hl : l.length ≤ 1000) :
    Calls Try.prog 7 #[.slice A l.length c] w (GOut (groupsL l l.length) w) := by
  have HV := Lib.hid hV
  obtain ⟨n, hn⟩ : ∃ n, n = l.length := ⟨_, rfl⟩
  have hmk := fun w => run_make_row' (P := Try.prog) 56 4 (.bool false) 1 Try.underlying56 infB rfl .i64 .i64 n (by omega) (by omega) w
  have HN := Lib.hid hn
  rw [← hn] at hl ⊢
  have n0 : (0 : Int) ≤ (n : Int) := by omega
  have ks := fun (x y : Ct) (w : World) => share_any x y w
  have KS := Lib.hid ks
  clear hV hn ks
  go_enter Try.func7, Try.ntmps7; (try simp only [List.append_eq, List.cons_append, List.nil_append])
  go_wp2_with fail
  clear hmk
  go_loopw [3, 14] (fun t3 t14 wr => ∃ (i : Nat) (d : List Bool) (B : Option Addr) (e : Nat), i ≤ n ∧ t14 = .int .i64 i ∧ t3 = .slice B (groupsL l i).length e ∧ Hid (DoneI n (shL l) i d ∧ DAt wr w.heap.size d ∧ GsOwn wr (w.heap.size + 1) wr.heap.size B e (groupsL l i) ∧ Below w.heap.size w wr ∧ w.heap.size + 1 ≤ wr.heap.size)) (fun _ t14 _ => n - (intOf t14).toNat)
  case atStart =>
    refine ⟨0, List.replicate n false, none, 0, by omega, rfl, rfl, Lib.hid ⟨DoneI.zero n _, DAt.made w n _, ?_, by ((with_reducible (repeat (first | exact bR _ _ | refine bS ?_ ?_ _ | refine bA ?_ ?_ _ | refine bD ?_ | refine bT ?_ (by assumption) ?_ | refine bO (by assumption) ?_ ?_))) <;> (first | omega | (simp; done) | (simp <;> omega))), by simp⟩⟩
    exact GsOwn.nil _ _ _
  case round =>
    obtain ⟨i, d, B, e, hi, rfl, rfl, HR⟩ := hrel
    obtain ⟨w0, rfl⟩ : ∃ z, z = wr := ⟨_, rfl⟩
    have i1 : (0 : Int) ≤ (i : Int) := by omega
    by_cases hlt : i < n
    · have i2 : (i : Int) < (n : Int) := by omega
      obtain ⟨b, hb⟩ : ∃ b, d[i]? = some b := ⟨d[i]'(by rw [HR.out.1.1]; exact hlt), by simp⟩
      have hc := HR.out.2.1.2.2 i b hb
      have hfz := HR.out.2.1.2.1
      have hD := HR.out.2.2.2.2
      have HBD := Lib.hid hb
      clear hb
      cases b
      · have HG := Lib.hid (GI.start HR.out.1 hlt HBD.out)
        have HDA := Lib.hid (HR.out.2.1.set (b := true) HBD.out)
        have hcs : (w0.setCell ⟨w.heap.size, i, none⟩ (.bool true)).cell? ⟨w.heap.size, i, none⟩ = some (.bool true) := by go_simp
        have HS0 := Lib.hid (show Same (w.heap.size + 1) w0.heap.size w0 ((w0.setCell ⟨w.heap.size, i, none⟩ (.bool true)).alloc (.cells #[.int .i64 i] 3)) from ((Same.refl _ _ _).low (by simp) _).alloc (by simp) _)
        have HB0 := Lib.hid (show Below w.heap.size w ((w0.setCell ⟨w.heap.size, i, none⟩ (.bool true)).alloc (.cells #[.int .i64 i] 3)) by have hB := HR.out.2.2.2.1; ((with_reducible (repeat (first | exact bR _ _ | refine bS ?_ ?_ _ | refine bA ?_ ?_ _ | refine bD ?_ | refine bT ?_ (by assumption) ?_ | refine bO (by assumption) ?_ ?_))) <;> (first | omega | (simp; done) | (simp <;> omega))))
        have HD0 := Lib.hid (HDA.out.alloc (.cells #[.int .i64 i] 3))
        have HI0 := Lib.hid (show OwnI ((w0.setCell ⟨w.heap.size, i, none⟩ (.bool true)).alloc (.cells #[.int .i64 i] 3)) w0.heap.size (some ⟨w0.heap.size, 0, none⟩) 1 (natI [i]) from by
          have := own_new (w0.setCell ⟨w.heap.size, i, none⟩ (.bool true)) w0.heap.size 3 1 1 #[.int .i64 i] (by simp) rfl (by decide)
          simpa [OwnI, natI] using this)
        clear hcs HDA
        go_wp2_with fail
        clear hc hfz
        go_loopw [6, 7] (fun t6 t7 wr => ∃ (p : Nat) (d : List Bool) (g : List Nat) (G : Option Addr) (q : Nat), p ≤ g.length ∧ g.length ≤ n ∧ t7 = .int .i64 p ∧ t6 = .slice G (natI g).length q ∧ Hid (GI n (shL l) i d g p 0 ∧ DAt wr w.heap.size d ∧ OwnI wr w0.heap.size G q (natI g) ∧ Same (w.heap.size + 1) w0.heap.size w0 wr ∧ Below w.heap.size w wr)) (fun _ t7 _ => n - (intOf t7).toNat)
        case atStart => exact ⟨0, d.set i true, [i], some ⟨w0.heap.size, 0, none⟩, 1, by simp, by simp; omega, rfl, rfl, Lib.hid ⟨HG.out, HD0.out, HI0.out, HS0.out, HB0.out⟩⟩
        case round =>
          clear HD0 HI0 HS0 HB0 HG
          obtain ⟨p, d1, g, G, q, hp, hgn, rfl, rfl, HL⟩ := hrel
          obtain ⟨w1, rfl⟩ : ∃ z, z = wr := ⟨_, rfl⟩
          have p1 : (0 : Int) ≤ (p : Int) := by omega
          by_cases hpl : p < g.length
          · have p2 : (p : Int) < ((natI g).length : Int) := by rw [natI_len]; omega
            obtain ⟨a, ha⟩ : ∃ a, g[p]? = some a := ⟨g[p], by simp⟩
            have HA := Lib.hid ha
            have han := (HL.out.1.mem a (List.mem_of_getElem? ha)).1
            have a1 : (0 : Int) ≤ (a : Int) := by omega
            have a2 : (a : Int) < (n : Int) := by omega
            obtain ⟨x, hx⟩ : ∃ x, l[a]? = some x := ⟨l[a]'(by rw [← HN.out]; exact han), by simp⟩
            have HX := Lib.hid hx
            clear ha hx
            go_wp2_with fail
            go_loopw [6, 34] (fun t6 t34 wr => ∃ (k : Nat) (d : List Bool) (h : List Nat) (G : Option Addr) (q : Nat), k ≤ n ∧ t34 = .int .i64 k ∧ t6 = .slice G (natI h).length q ∧ Hid (h[p]? = some a ∧ GI n (shL l) i d h p k ∧ DAt wr w.heap.size d ∧ OwnI wr w0.heap.size G q (natI h) ∧ Same (w.heap.size + 1) w0.heap.size w0 wr ∧ Below w.heap.size w wr)) (fun _ t34 _ => n - (intOf t34).toNat)
            case atStart => exact ⟨0, d1, g, G, q, by omega, rfl, rfl, Lib.hid ⟨HA.out, HL.out⟩⟩
            case round =>
              clear HL HA hp hgn hpl p2
              obtain ⟨k, d2, h, G2, q2, hk, rfl, rfl, HM⟩ := hrel
              obtain ⟨w2, rfl⟩ : ∃ z, z = wr := ⟨_, rfl⟩
              have k1 : (0 : Int) ≤ (k : Int) := by omega
              have hph := (List.getElem?_eq_some_iff.1 HM.out.1).1
              have p2 : (p : Int) < ((natI h).length : Int) := by rw [natI_len]; omega
              have hhn := HM.out.2.1.len_le
              by_cases hkn : k < n
              · have k2 : (k : Int) < (n : Int) := by omega
                obtain ⟨y, hy⟩ : ∃ y, l[k]? = some y := ⟨l[k]'(by rw [← HN.out]; exact hkn), by simp⟩
                have HY := Lib.hid hy
                obtain ⟨b, hb⟩ : ∃ b, d2[k]? = some b := ⟨d2[k]'(by rw [HM.out.2.1.len]; exact hkn), by simp⟩
                have HBD2 := Lib.hid hb
                have hsh := shL_get HX.out hy
                have ks := fun w => KS.out x y w
                generalize shareB x y = S at hsh ks
                have HSH := Lib.hid hsh
                clear hy hb hsh
                obtain ⟨gl, ol, rfl, hgl, x0, x1, x2, x3, x4, x5, x6, x7, x8, x9⟩ := (HV.out.below HM.out.2.2.2.2.2 (Nat.le_refl _)) a _ HX.out
                obtain ⟨gl', ol', e0, _, y0, y1, y2, y3, y4, y5, y6, y7, y8, y9⟩ := (HV.out.below HM.out.2.2.2.2.2 (Nat.le_refl _)) k _ HY.out
                obtain ⟨rfl, rfl⟩ : gl = gl' ∧ ol = ol' := by simpa using e0
                clear e0
                obtain ⟨gg, og, rfl, hgg, c0⟩ := HM.out.2.2.2.1.iat p _ (natI_get HM.out.1)
                have cd := HM.out.2.2.1.2.2 k b HBD2.out
                have cf := HM.out.2.2.1.2.1
                have hD2 := HM.out.2.2.1.1
                obtain ⟨xb, xk, xi, xr0, xr1, xr2, xr3, xr4, xr5, xr6⟩ := x
                obtain ⟨yb, yk, yi, yr0, yr1, yr2, yr3, yr4, yr5, yr6⟩ := y
                simp only [Ct.v] at ks x0 x1 x2 x3 x4 x5 x6 x7 x8 x9 y0 y1 y2 y3 y4 y5 y6 y7 y8 y9
                have K1 := Lib.hid ks
                clear ks
                cases b
                · go_wp2_with fail
                  -- own blocks: 
                  refine wp_region_warm (Own w2.heap.size w2) (by kernel_rfl) (by kernel_rfl) (Own.refl (Nat.le_refl _)).drew ?_
                  repeat (first | (refine wpWarm_step_off rfl (fun K hK => ?_); (go_simp; refine hK _ ?_; clear hK K)) | (apply wpWarm_step rfl; (focus (intro W' hS; have hcS := hS.cells.1; have hfS := hS.cells.2; go_simp; (first | done | exact rfl | exact ⟨rfl, hS⟩ | (go_at_call 17; exact (K1.out _).mono (fun _ _ h => ⟨h.1, hS.call h.2⟩)) | (go_simp; exact rfl)))); (intro K hK; go_simp; (try go_bits); refine hK _ ?_; clear hK K)) | (apply wpWarm_step_on rfl; (focus (intro W' hS; have hcS := hS.cells.1; have hfS := hS.cells.2; go_simp; (first | done | exact rfl | exact ⟨rfl, hS⟩ | (go_at_call 17; exact (K1.out _).mono (fun _ _ h => ⟨h.1, hS.call h.2⟩)) | (go_simp; exact rfl)))); (intro K hK; go_simp; (try go_bits); refine hK _ ?_; clear hK K)))
                  (refine wpWarm_nil ?_; intro w4 hO; have hz_w4 := hO.1; have hb_w4 := hO.2; clear hO; skip)
                  have HB4 := Lib.hid hb_w4
                  have hS2 : w0.heap.size ≤ w2.heap.size := HM.out.2.2.2.2.1.1
                  clear hb_w4 cd cf c0 x0 x1 x2 x3 x4 x5 x6 x7 x8 x9 y0 y1 y2 y3 y4 y5 y6 y7 y8 y9 K1
                  cases S
                  · go_wp2_with fail
                    go_roundw
                    case rel => exact ⟨k + 1, d2, h, _, q2, by omega, by go_num, rfl, Lib.hid ⟨HM.out.1, HM.out.2.1.pass HM.out.1 hkn (.inr HSH.out), HM.out.2.2.1.below HB4.out hD2, HM.out.2.2.2.1.below HB4.out (Nat.le_refl _), HM.out.2.2.2.2.1.below HB4.out hS2, HM.out.2.2.2.2.2.trans (HB4.out.mono (by omega))⟩⟩
                    case measure => simp [intOf]; omega
                  · have HD4 := Lib.hid (HM.out.2.2.1.below HB4.out hD2)
                    have cd := HD4.out.2.2 k false HBD2.out
                    have cf := HD4.out.2.1
                    have HO4 := Lib.hid (HM.out.2.2.2.1.below HB4.out (Nat.le_refl _))
                    have HS4 := Lib.hid (HM.out.2.2.2.2.1.below HB4.out hS2)
                    have HW4 := Lib.hid (HM.out.2.2.2.2.2.trans (HB4.out.mono (by omega)))
                    have hz4' : w.heap.size ≤ w4.heap.size := by omega
                    go_wp2_with (at_builtin; go_must (refine wpList_append_one rfl _ _ 27 3 _ 1 8 rfl Try.underlying27 infI rfl (by decide) (by decide) w0.heap.size _ (natI h).length ((natI h).map (Value.int .i64)) [.int .i64 (k : Int)] rfl (show OwnI _ w0.heap.size (some ⟨gg, og, none⟩) q2 (natI h) by ((repeat (first | (with_reducible exact HO4.out) | (with_reducible refine OwnI.low ?_ ?_ _) | (with_reducible refine OwnI.alloc ?_ _))) <;> first | omega | (simp; done) | (simp <;> omega))) _ 1 rfl rfl (cell1 (by go_simp)) (by simp [Value.oneCell']) (by rw [natI_len]; omega) (by simp; omega) ?_))
                    intro v1 w5 hown5 hg5 _
                    obtain ⟨G5, q5, rfl, ho5⟩ := owni_snoc (l := natI h) hown5
                    rw [← natI_snoc] at ho5 ⊢
                    have hfr := HO4.out.fresh
                    have HD5 := Lib.hid (((HD4.out.set (b := true) HBD2.out).alloc _).grown hg5 (fun e => by have := hfr _ e.symm; omega))
                    have HS5 := Lib.hid (((HS4.out.low (p := ⟨w.heap.size, k, none⟩) (by simp) (.bool true)).alloc (by simp; omega) _).grown hg5 hfr (by simp; omega))
                    have HW5 := Lib.hid ((show Below w.heap.size w _ from (HW4.out.setCell (p := ⟨w.heap.size, k, none⟩) (Nat.le_refl _) (.bool true)).alloc (by simp; omega) _).grown hg5 (by simp; omega) (fun b hb => by have := hfr b hb; omega))
                    have HO5 := Lib.hid ho5
                    clear hg5 hown5 ho5 cd cf hfr
                    go_wp2_with fail
                    go_roundw
                    case rel => exact ⟨k + 1, d2.set k true, h ++ [k], G5, q5, by omega, by go_num, rfl, Lib.hid ⟨by rw [List.getElem?_append_left hph]; exact HM.out.1, HM.out.2.1.add HM.out.1 hkn HBD2.out HSH.out, HD5.out, HO5.out, HS5.out, HW5.out⟩⟩
                    case measure => simp [intOf]; omega
                · go_wp2_with fail
                  -- own blocks: 
                  refine wp_region_warm (Own w2.heap.size w2) (by kernel_rfl) (by kernel_rfl) (Own.refl (Nat.le_refl _)).drew ?_
                  repeat (first | (refine wpWarm_step_off rfl (fun K hK => ?_); (go_simp; refine hK _ ?_; clear hK K)) | (apply wpWarm_step rfl; (focus (intro W' hS; have hcS := hS.cells.1; have hfS := hS.cells.2; go_simp; (first | done | exact rfl | exact ⟨rfl, hS⟩ | (go_at_call 17; exact (K1.out _).mono (fun _ _ h => ⟨h.1, hS.call h.2⟩)) | (go_simp; exact rfl)))); (intro K hK; go_simp; (try go_bits); refine hK _ ?_; clear hK K)) | (apply wpWarm_step_on rfl; (focus (intro W' hS; have hcS := hS.cells.1; have hfS := hS.cells.2; go_simp; (first | done | exact rfl | exact ⟨rfl, hS⟩ | (go_at_call 17; exact (K1.out _).mono (fun _ _ h => ⟨h.1, hS.call h.2⟩)) | (go_simp; exact rfl)))); (intro K hK; go_simp; (try go_bits); refine hK _ ?_; clear hK K)))
                  (refine wpWarm_nil ?_; intro w4 hO; have hz_w4 := hO.1; have hb_w4 := hO.2; clear hO; skip)
                  have HB4 := Lib.hid hb_w4
                  have hS2 : w0.heap.size ≤ w2.heap.size := HM.out.2.2.2.2.1.1
                  clear hb_w4 cd cf c0 x0 x1 x2 x3 x4 x5 x6 x7 x8 x9 y0 y1 y2 y3 y4 y5 y6 y7 y8 y9 K1
                  go_wp2_with fail
                  go_roundw
                  case rel => exact ⟨k + 1, d2, h, _, q2, by omega, by go_num, rfl, Lib.hid ⟨HM.out.1, HM.out.2.1.pass HM.out.1 hkn (.inl HBD2.out), HM.out.2.2.1.below HB4.out hD2, HM.out.2.2.2.1.below HB4.out (Nat.le_refl _), HM.out.2.2.2.2.1.below HB4.out hS2, HM.out.2.2.2.2.2.trans (HB4.out.mono (by omega))⟩⟩
                  case measure => simp [intOf]; omega
              · obtain rfl : k = n := by omega
                have HNX := Lib.hid (HM.out.2.1.next hph)
                go_wp2_with fail
                go_roundw
                case rel => exact ⟨p + 1, d2, h, G2, q2, hph, hhn, by go_num, rfl, Lib.hid ⟨HNX.out, HM.out.2.2⟩⟩
                case measure => simp [intOf]; omega
          · obtain rfl : p = g.length := by omega
            have p2 : ¬ ((g.length : Int) < ((natI g).length : Int)) := by rw [natI_len]; omega
            have HSG := Lib.hid (show sortI (natI g) = natI (grpOf n (shL l) i) from sorted_grp (shL_symm l) HL.out.1)
            have HDN := Lib.hid (HL.out.1.done (shL_symm l))
            have ks := fun W hW => sort_own (natI g) w0.heap.size G q W hW (by rw [natI_len]; omega)
            have KO := Lib.hid ks
            have HNEW := Lib.hid HL.out.1.new
            clear ks
            go_wp2_with fail
            (go_at_call 18; refine (KO.out _ HL.out.2.2.1).mono ?_; rintro e2 w2 ⟨rfl, ho2, hg2⟩)
            rw [HSG.out] at ho2
            have hlen : (natI g).length = (natI (grpOf n (shL l) i)).length := by rw [← HSG.out, sortI_len]
            have hfr := HL.out.2.2.1.fresh
            have hS1 : w0.heap.size ≤ w1.heap.size := HL.out.2.2.2.1.1
            have hz2 := hg2.size
            have HD2 := Lib.hid (HL.out.2.1.grown hg2 (fun e => by have := hfr _ e.symm; omega))
            have HS2 := Lib.hid (HL.out.2.2.2.1.grown hg2 hfr hS1)
            have HW2 := Lib.hid (HL.out.2.2.2.2.grown hg2 (by omega) (fun b hb => by have := hfr b hb; omega))
            have HO2 := Lib.hid ho2
            clear hg2 ho2 hfr
            rw [hlen]
            generalize hGG : natI (grpOf n (shL l) i) = GG at *
            obtain ⟨vs, r1, r2, r3, r4⟩ := (HR.out.2.2.1.same (HS2.out.alloc (by omega) (.cells #[.slice G GG.length q] 27)))
            have R1 := Lib.hid r1
            have R2 := Lib.hid r2
            have R4 := Lib.hid r4
            have HX2 := Lib.hid (OwnI.alloc HO2.out (.cells #[.slice G GG.length q] 27))
            have hgl := groupsL_len l i
            clear r1 r2 r3 r4
            go_wp2_with (at_builtin; go_must (refine wpList_append_one rfl _ _ 24 27 _ 1 24 rfl Try.underlying24 infIs rfl (by decide) (by decide) (w.heap.size + 1) _ (groupsL l i).length vs [.slice G GG.length q] rfl R1.out _ 1 rfl rfl (cell1 (by go_simp)) (by simp [Value.oneCell']) (by omega) (by simp; omega) ?_))
            intro v1 w5 hown5 hg5 _
            have hz5 := hg5.size
            have hz5' : w2.heap.size + 1 ≤ w5.heap.size := by simpa using hz5
            have hfr5 := fun b hb => (R1.out.lt b hb).1
            obtain ⟨B5, e5, rfl, hgs5⟩ := GsOwn.snoc (top := w0.heap.size) (by simp; omega) R1.out R2.out R4.out (OwnI.weaker HX2.out hD) hown5 hg5
            have HG5 := Lib.hid hgs5
            have HD5 := Lib.hid ((HD2.out.alloc _).grown hg5 (fun e => by have := hfr5 _ e.symm; omega))
            have HW5 := Lib.hid ((HW2.out.alloc (by omega) _).grown hg5 (by simp; omega) (fun b hb => by have := hfr5 b hb; omega))
            have HGE := Lib.hid (show groupsL l (i + 1) = groupsL l i ++ [GG] by rw [← hGG]; have := groupsL_new (l := l) (m := i) (by rw [← HN.out]; exact HNEW.out); rw [← HN.out] at this; exact this)
            clear hg5 hown5 hfr5 hgs5
            go_wp2_with fail
            go_roundw
            case rel => exact ⟨i + 1, d1, B5, e5, by omega, by go_num, by rw [HGE.out], Lib.hid ⟨HDN.out, HD5.out, by rw [HGE.out]; exact HG5.out, HW5.out, by omega⟩⟩
            case measure => simp [intOf]; omega
      · have HGE := Lib.hid (show groupsL l (i + 1) = groupsL l i from groupsL_old (by rw [← HN.out]; exact HR.out.1.old HBD.out))
        go_wp2_with fail
        go_roundw
        case rel => exact ⟨i + 1, d, B, e, by omega, by go_num, by rw [HGE.out], Lib.hid ⟨HR.out.1.skip HBD.out, HR.out.2.1, by rw [HGE.out]; exact HR.out.2.2.1, HR.out.2.2.2.1, hD⟩⟩
        case measure => simp [intOf]; omega
    · obtain rfl : i = n := by omega
      go_wp2_with fail
      go_ret
      exact ⟨HR.out.2.2.2.1, B, e, rfl, HR.out.2.2.1.at⟩
end Go.Proofs.Ytgejdaincnclpaa
namespace Go.Proofs.Ytgejdaincnclpaa
open Go Go.RowKit
set_option linter.unusedVariables false
theorem mat_block {w : World} {g : Nat} {e : TypeId} {l : List Mt} (h : w.heap[g]? = some (.cells (flatM l).toArray e (0, 0))) : MAt w (some ⟨g, 0, none⟩) l := fun k m hk => by
  have hg := (Array.getElem?_eq_some_iff.1 h).1
  have key : ∀ j, j < 10 → w.cell? ⟨g, 0 + k * 10 + j, none⟩ = m.cells[j]? := fun j hj => by
    rw [Nat.zero_add, cell_of_row w g _ _ e (0, 0) h, List.getElem?_toArray]
    exact flatM_get hk hj
  exact ⟨g, 0, rfl, hg, key 0 (by omega), key 1 (by omega), key 2 (by omega), key 3 (by omega), key 4 (by omega), key 5 (by omega), key 6 (by omega), key 7 (by omega), key 8 (by omega), key 9 (by omega)⟩
def flatC (l : List Ct) : List Value := l.flatMap Ct.cells
theorem flatC_get {l : List Ct} {k j : Nat} {m : Ct} (h : l[k]? = some m) (hj : j < 10) : (flatC l)[k * 10 + j]? = m.cells[j]? := by
  unfold flatC
  induction l generalizing k with
  | nil => simp at h
  | cons x l ih =>
    rw [List.flatMap_cons]
    have hl : x.cells.length = 10 := rfl
    cases k with
    | zero =>
      simp only [List.getElem?_cons_zero, Option.some.injEq] at h
      subst h
      rw [List.getElem?_append_left (by omega)]
      congr 1
      omega
    | succ k =>
      simp only [List.getElem?_cons_succ] at h
      rw [List.getElem?_append_right (by omega), hl, show (k + 1) * 10 + j - 10 = k * 10 + j by omega]
      exact ih h
theorem cat_block {w : World} {g : Nat} {e : TypeId} {l : List Ct} (h : w.heap[g]? = some (.cells (flatC l).toArray e (0, 0))) : CAt w (some ⟨g, 0, none⟩) l := fun k m hk => by
  have hg := (Array.getElem?_eq_some_iff.1 h).1
  have key : ∀ j, j < 10 → w.cell? ⟨g, 0 + k * 10 + j, none⟩ = m.cells[j]? := fun j hj => by
    rw [Nat.zero_add, cell_of_row w g _ _ e (0, 0) h, List.getElem?_toArray]
    exact flatC_get hk hj
  exact ⟨g, 0, rfl, hg, key 0 (by omega), key 1 (by omega), key 2 (by omega), key 3 (by omega), key 4 (by omega), key 5 (by omega), key 6 (by omega), key 7 (by omega), key 8 (by omega), key 9 (by omega)⟩
def aw1 : Mt := ⟨0, -1, 0, 1, 0, 0, 0, 0, 8, 0⟩
def aw2 : Mt := ⟨0, -1, -1, 0, 0, 0, 0, 0, 8, 0⟩
theorem aw_balls : setI (ballsL [aw1, aw2]) = [0] := setI_eq (by simp) fun x => by simp [ballsL, aw1, aw2]
theorem aw_res : resR [aw1, aw2] [(3, -4)] = ([(0, -1)], true, 0) := by
  have he : effL [aw1, aw2] [(3, -4)] = [aw1, aw2] := by decide +kernel
  have hn : newV [aw1, aw2] [(3, -4)] 0 = (0, -1) := by decide +kernel
  unfold resR ballsE
  rw [he, aw_balls, if_neg (by simp), if_pos ⟨by decide +kernel, by decide +kernel⟩]
  simp [putV, chgV, hn]
def awc (b k i : Int) : Ct := ⟨b, k, i, .slice none 0 0, .bool false, .slice none 0 0, .int .i64 0, .bool false, .slice none 0 0, .int .i64 0⟩
def awl : List Ct := [awc 0 5 2, awc 1 1 0, awc 2 3 0]
theorem Reach.cls {n : Nat} {sh : Nat → Nat → Bool} {cl : Nat → Nat} (h : ∀ a b, sh a b = true → cl a = cl b) {i j : Nat} (hr : Reach n sh i j) : cl i = cl j := by
  induction hr with
  | refl => rfl
  | step _ _ hs ih => exact ih.trans (h _ _ hs)
theorem awl_cls : ∀ a b, shL awl a b = true → (if a = 1 then 1 else 0 : Nat) = if b = 1 then 1 else 0 := by
  intro a b h
  have ha : a < 3 := by
    rcases Nat.lt_or_ge a 3 with h' | h'
    · exact h'
    · unfold shL at h; rw [List.getElem?_eq_none (by simpa [awl] using h')] at h; exact absurd h (by simp)
  have hb : b < 3 := by
    rcases Nat.lt_or_ge b 3 with h' | h'
    · exact h'
    · rw [shL_symm] at h; unfold shL at h; rw [List.getElem?_eq_none (by simpa [awl] using h')] at h; exact absurd h (by simp)
  rcases (by omega : a = 0 ∨ a = 1 ∨ a = 2) with rfl | rfl | rfl <;> rcases (by omega : b = 0 ∨ b = 1 ∨ b = 2) with rfl | rfl | rfl <;> first | rfl | (exfalso; revert h; decide)
theorem aw_groups : groupsL awl 3 = [[0, 2], [1]] := by
  have c := fun i j (h : Reach 3 (shL awl) i j) => Reach.cls (cl := fun a => if a = 1 then 1 else 0) awl_cls h
  have r00 : Reach 3 (shL awl) 0 0 := .refl
  have r11 : Reach 3 (shL awl) 1 1 := .refl
  have r02 : Reach 3 (shL awl) 0 2 := r00.step (by decide) (by decide)
  have n01 : ¬ Reach 3 (shL awl) 0 1 := fun h => by have := c _ _ h; simp at this
  have n10 : ¬ Reach 3 (shL awl) 1 0 := fun h => by have := c _ _ h; simp at this
  have n12 : ¬ Reach 3 (shL awl) 1 2 := fun h => by have := c _ _ h; simp at this
  have g0 : grpOf 3 (shL awl) 0 = [0, 2] := by unfold grpOf; simp [List.range_succ, r00, r02, n01]
  have g1 : grpOf 3 (shL awl) 1 = [1] := by unfold grpOf; simp [List.range_succ, r11, n10, n12]
  have o0 : ¬ Old 3 (shL awl) 0 0 := fun ⟨i, hi, _⟩ => by omega
  have o1 : ¬ Old 3 (shL awl) 1 1 := fun ⟨i, hi, h⟩ => by
    obtain rfl : i = 0 := by omega
    exact n01 h
  have o2 : Old 3 (shL awl) 2 2 := ⟨0, by omega, r02⟩
  have e1 : groupsTo 3 (shL awl) 1 = [[0, 2]] := by rw [groupsTo_new o0, g0]; rfl
  have e2 : groupsTo 3 (shL awl) 2 = [[0, 2], [1]] := by rw [groupsTo_new o1, g1, e1]; rfl
  have e3 : groupsTo 3 (shL awl) 3 = [[0, 2], [1]] := by rw [groupsTo_old o2, e2]
  show (groupsTo 3 (shL awl) 3).map natI = _
  rw [e3]
  rfl
set_option maxRecDepth 100000 in
set_option maxHeartbeats 20000000 in
theorem awake16_any (w : World) : Calls Try.prog 6 #[] w fun e w' => e = .returned (.bool true) ∧ Below w.heap.size w w' := by
  have kr := fun (A B : Option Addr) (c d : Nat) (w : World) h1 h2 => resolve_any [aw1, aw2] A c [(3, -4)] B d w h1 h2
  rw [aw_res] at kr
  have kg := fun (A : Option Addr) (c : Nat) (w : World) h1 => groups_any awl A c w h1 (by decide)
  rw [show awl.length = 3 from rfl, aw_groups] at kg
  have kb := fun (A : Option Addr) (c : Nat) (w : World) h1 => balls_any [aw1, aw2] A c w h1 (by decide)
  rw [aw_balls] at kb
  have KR := Lib.hid kr
  have KG := Lib.hid kg
  have KB := Lib.hid kb
  clear kr kg kb
  go_enter Try.func6, Try.ntmps6; (try simp only [List.append_eq, List.cons_append, List.nil_append])
  go_wp2_with fail
  have hm : MAt ((w.alloc (.cells #[.int .i64 0, .int .i64 (-1), .int .i64 0, .int .i64 1, .int .i64 0, .int .i64 0, .int .i64 0, .int .i64 0, .int .i64 8, .int .i64 0, .int .i64 0, .int .i64 (-1), .int .i64 (-1), .int .i64 0, .int .i64 0, .int .i64 0, .int .i64 0, .int .i64 0, .int .i64 8, .int .i64 0] 34)).alloc (.cells #[.int .i64 3, .int .i64 (-4)] 32)) (some ⟨w.heap.size, 0, none⟩) [aw1, aw2] := mat_block (e := 34) ((heap_alloc_old _ _ (by simp)).trans (heap_alloc_new w _))
  have hv : VAt ((w.alloc (.cells #[.int .i64 0, .int .i64 (-1), .int .i64 0, .int .i64 1, .int .i64 0, .int .i64 0, .int .i64 0, .int .i64 0, .int .i64 8, .int .i64 0, .int .i64 0, .int .i64 (-1), .int .i64 (-1), .int .i64 0, .int .i64 0, .int .i64 0, .int .i64 0, .int .i64 0, .int .i64 8, .int .i64 0] 34)).alloc (.cells #[.int .i64 3, .int .i64 (-4)] 32)) (some ⟨w.heap.size + 1, 0, none⟩) [(3, -4)] := fun k x hx => by
    rcases k with _ | k
    · simp only [List.getElem?_cons_zero, Option.some.injEq] at hx
      subst hx
      exact ⟨w.heap.size + 1, 0, rfl, by simp, by go_simp, by go_simp⟩
    · simp at hx
  have HM := Lib.hid hm
  have HV := Lib.hid hv
  clear hm hv
  -- own blocks: 
  (go_at_call 10; refine (KR.out _ _ _ _ _ HM.out HV.out).mono ?_; rintro e w1 ⟨hb_w1, O, qo, rfl, ho⟩; have hz_w1 := hb_w1.size; (try simp at hz_w1); skip)
  obtain ⟨go, oo, rfl, hgo, o0, o1⟩ := ho 0 (0, -1) rfl
  simp only [Nat.zero_mul, Nat.add_zero] at o0 o1
  have HM1 := Lib.hid (HM.out.below hb_w1 (Nat.le_refl _))
  have HB1 := Lib.hid (show Below w.heap.size w w1 by ((with_reducible (repeat (first | exact bR _ _ | refine bS ?_ ?_ _ | refine bA ?_ ?_ _ | refine bD ?_ | refine bT ?_ (by assumption) ?_ | refine bO (by assumption) ?_ ?_))) <;> (first | omega | (simp; done) | (simp <;> omega))))
  clear hb_w1 HM HV ho
  go_wp2_with fail
  (go_at_call 7; refine (KG.out _ _ _ (cat_block (l := awl) (heap_alloc_new w1 _))).mono ?_; rintro e w2 ⟨hb_w2, G, qg, rfl, hg⟩; have hz_w2 := hb_w2.size; (try simp at hz_w2); skip)
  obtain ⟨b0, ob, B, d, rfl, hb0, c0, hI⟩ := hg 0 [0, 2] rfl
  obtain ⟨b1, ob1, rfl, hb1, c1⟩ := hI 1 2 rfl
  rw [Nat.add_zero] at c0
  have o0' := (hb_w2.cell (p := ⟨go, oo, none⟩) (by simp; omega)).trans ((Lib.cell?_alloc_some _ o0))
  have o1' := (hb_w2.cell (p := ⟨go, oo + 1, none⟩) (by simp; omega)).trans ((Lib.cell?_alloc_some _ o1))
  have HB2 := Lib.hid (HB1.out.trans ((show Below w1.heap.size w1 w2 by ((with_reducible (repeat (first | exact bR _ _ | refine bS ?_ ?_ _ | refine bA ?_ ?_ _ | refine bD ?_ | refine bT ?_ (by assumption) ?_ | refine bO (by assumption) ?_ ?_))) <;> (first | omega | (simp; done) | (simp <;> omega)))).mono HB1.out.size))
  have HM2 := Lib.hid (HM1.out.below (show Below w1.heap.size w1 w2 by ((with_reducible (repeat (first | exact bR _ _ | refine bS ?_ ?_ _ | refine bA ?_ ?_ _ | refine bD ?_ | refine bT ?_ (by assumption) ?_ | refine bO (by assumption) ?_ ?_))) <;> (first | omega | (simp; done) | (simp <;> omega)))) (Nat.le_refl _))
  have hgo2 : go < w2.heap.size := by omega
  clear hb_w2 o0 o1 hg hI
  go_wp2_with fail
  (go_at_call 13; refine (KB.out _ _ _ HM2.out).mono ?_; rintro e w3 ⟨hb_w3, H, qh, rfl, hh⟩; have hz_w3 := hb_w3.size; (try simp at hz_w3); skip)
  have HB3 := Lib.hid (HB2.out.trans (hb_w3.mono HB2.out.size))
  clear hb_w3 hh
  go_wp2_with fail
  go_ret
  exact ⟨rfl, HB3.out⟩
end Go.Proofs.Ytgejdaincnclpaa
namespace Go.Proofs.Ytgejdaincnclpaa
open Go Go.RowKit
set_option linter.unusedVariables false
set_option maxRecDepth 100000 in
set_option maxHeartbeats 4000000 in
theorem numbers_yes (l : List Int) (A B : Option Addr) (c d : Nat) (w : World) (hA : IAt w A l) (hB : IAt w B l) (hl : l.length ≤ 100000) :
    Calls Try.prog 9 #[.slice A l.length c, .slice B l.length d] w fun e w' => e = .returned (.bool true) ∧ Below w.heap.size w w' := by
  have HA := Lib.hid hA
  have HB := Lib.hid hB
  clear hA hB
  have hne : ((l.length : Int) != (l.length : Int)) = false := by simp
  go_enter Try.func9, Try.ntmps9; (try simp only [List.append_eq, List.cons_append, List.nil_append])
  go_wp2_with fail
  go_loopw [5] (fun t5 wr => ∃ k : Nat, k ≤ l.length ∧ t5 = .int .i64 k ∧ Hid (Below w.heap.size w wr)) (fun t5 _ => l.length - (intOf t5).toNat)
  case atStart => exact ⟨0, by omega, rfl, Lib.hid (Below.refl _ _)⟩
  case round =>
    obtain ⟨k, hk, rfl, HW⟩ := hrel
    have k1 : (0 : Int) ≤ (k : Int) := by omega
    by_cases hkl : k < l.length
    · have k2 : (k : Int) < (l.length : Int) := by omega
      obtain ⟨x, hx⟩ : ∃ x, l[k]? = some x := ⟨l[k], by simp⟩
      obtain ⟨g, o, rfl, hg, c0⟩ := (HA.out.below HW.out (Nat.le_refl _)) k x hx
      obtain ⟨g2, o2, rfl, hg2, c1⟩ := (HB.out.below HW.out (Nat.le_refl _)) k x hx
      clear hx
      go_wp2_with fail
      -- own blocks: 
      refine wp_region_warm (Own wr.heap.size wr) (by kernel_rfl) (by kernel_rfl) (Own.refl (Nat.le_refl _)).drew ?_
      repeat (first | (refine wpWarm_step_off rfl (fun K hK => ?_); (go_simp; refine hK _ ?_; clear hK K)) | (apply wpWarm_step rfl; (focus (intro W' hS; have hcS := hS.cells.1; have hfS := hS.cells.2; go_simp; (first | done | exact rfl | exact ⟨rfl, hS⟩ | (go_simp; exact rfl)))); (intro K hK; go_simp; (try go_bits); refine hK _ ?_; clear hK K)) | (apply wpWarm_step_on rfl; (focus (intro W' hS; have hcS := hS.cells.1; have hfS := hS.cells.2; go_simp; (first | done | exact rfl | exact ⟨rfl, hS⟩ | (go_simp; exact rfl)))); (intro K hK; go_simp; (try go_bits); refine hK _ ?_; clear hK K)))
      (refine wpWarm_nil ?_; intro w4 hO; have hz_w4 := hO.1; have hb_w4 := hO.2; clear hO; skip)
      have HB4 := Lib.hid (HW.out.trans (hb_w4.mono HW.out.size))
      clear hb_w4 c0 c1
      go_wp2_with fail
      go_roundw
      case rel => exact ⟨k + 1, by omega, by go_num, HB4⟩
      case measure => simp [intOf]; omega
    · obtain rfl : k = l.length := by omega
      go_wp2_with fail
      go_ret
      exact ⟨rfl, HW.out⟩
end Go.Proofs.Ytgejdaincnclpaa
