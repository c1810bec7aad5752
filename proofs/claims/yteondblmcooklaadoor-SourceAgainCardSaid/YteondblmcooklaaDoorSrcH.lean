/- The contract of source.Parse. -/
import Derived.Test.YteondblmcooklaaDoorSrcF
import Derived.Test.YteondblmcooklaaDoorSrcG
namespace Go.Proofs.YteondblmcooklaaDoor
open Go Go.RowKit
set_option linter.unusedVariables false
structure C1 (w : World) (b : Nat) (v0 : Value) : Prop where
  c0 : w.cell? ⟨b, 0, none⟩ = some v0
  fz : ∀ o, w.frozen? ⟨b, o, none⟩ = false
  lt : b < w.heap.size
  one : ∀ o, 0 < o → w.cell? ⟨b, o, none⟩ = none
theorem C1.block {w w' : World} {b : Nat} {v0 : Value} (h : C1 w b v0) (hs : w.heap.size ≤ w'.heap.size) (hb : w'.heap[b]? = w.heap[b]?) : C1 w' b v0 :=
  ⟨(World.cell?_of_block (a := ⟨b, 0, none⟩) hb).trans h.c0, fun o => (World.frozen?_of_block (a := ⟨b, o, none⟩) hb).trans (h.fz o), Nat.lt_of_lt_of_le h.lt hs, fun o ho => (World.cell?_of_block (a := ⟨b, o, none⟩) hb).trans (h.one o ho)⟩
theorem C1.below {w w' : World} {b B : Nat} {v0 : Value} (h : C1 w b v0) (hb : Below B w w') (hB : b < B) : C1 w' b v0 := h.block hb.size (hb.block b hB)
theorem C1.but {w w' : World} {b rb : Nat} {v0 : Value} (h : C1 w b v0) (hb : But rb w w') (hn : b ≠ rb) : C1 w' b v0 := h.block hb.size (hb.block b h.lt hn)
theorem C1.alloc {w : World} {b : Nat} {v0 : Value} (h : C1 w b v0) (o : Obj) : C1 (w.alloc o) b v0 := h.block (by simp) (heap_alloc_old w o h.lt)
theorem C1.new (w : World) (v0 : Value) (e : TypeId) : C1 (w.alloc (.cells #[v0] e)) w.heap.size v0 := ⟨by go_simp, fun o => by go_simp, by simp, fun o ho => by rw [World.cell?_alloc_new]; simp; omega⟩
theorem C1.at (w : World) (b : Nat) (v0 : Value) (e : TypeId) (hb : b = w.heap.size) : C1 (w.alloc (.cells #[v0] e)) b v0 := by subst hb; exact C1.new w v0 e
theorem C1.low {w : World} {b : Nat} {v0 : Value} (h : C1 w b v0) {p : Addr} (hp : p.block ≠ b) (u : Value) : C1 (w.setCell p u) b v0 := h.block (by simp) (Below.heap_setCell _ _ _ _ (by omega))
theorem C1.set0 {w : World} {b : Nat} {v0 : Value} (h : C1 w b v0) (u : Value) : C1 (w.setCell ⟨b, 0, none⟩ u) b u := by
  obtain ⟨c0, fz, lt, one⟩ := h
  refine ⟨by go_simp, fun o => by go_simp, by simpa using lt, fun o ho => ?_⟩
  have := one o ho
  have hne : (⟨b, 0, none⟩ : Addr) ≠ ⟨b, o, none⟩ := fun e => by simp only [Addr.mk.injEq] at e; omega
  first | exact (World.cell?_setCell_other hne).trans this | exact (World.cell?_setCell_other _ hne).trans this | exact (World.cell?_setCell_other _ _ hne).trans this | exact (World.cell?_setCell_other _ _ _ hne).trans this | exact (World.cell?_setCell_other _ _ _ _ hne).trans this
theorem C1.grown {w w' : World} {b base : Nat} {v0 : Value} {row : Option Nat} (h : C1 w b v0) (hg : w.grownBy w' row) (hr : ∀ k, row = some k → base ≤ k) (hb : b < base) : C1 w' b v0 := h.block hg.size (hg.block b h.lt (fun e => by have := hr b e.symm; omega))
/-- A store to a block of one slice: the words are not there. -/
theorem RdAt.set_one {w : World} {rb N p : Nat} {A B : Option Addr} {l : List WV} {e c n d : Nat} (h : RdAt w rb N A l e c) (h1 : C1 w p (.slice B n d)) (hp : p ≠ rb) (u : Value) : RdAt (w.setCell ⟨p, 0, none⟩ u) rb N A l e c := by
  have hk : ∀ b, b ≠ p → (w.setCell ⟨p, 0, none⟩ u).heap[b]? = w.heap[b]? := fun b hb => Below.heap_setCell _ _ _ _ (by show b ≠ p; exact hb)
  have hr := hk rb (Ne.symm hp)
  refine ⟨(World.cell?_of_block hr).trans h.hw, (World.cell?_of_block hr).trans h.he, fun o => (World.frozen?_of_block hr).trans (h.fz o), by simpa using h.lt, h.nle, h.cap, fun k x hx => ?_⟩
  obtain ⟨g, o, hA, hg, hc⟩ := h.ws k x hx
  have hgp : g ≠ p := by
    rintro rfl
    have c0 := hc 0 _ rfl
    rcases Nat.eq_zero_or_pos (o + (k * 4 + 0)) with h0 | h0
    · rw [h0, h1.c0] at c0
      cases c0
    · rw [h1.one _ h0] at c0
      cases c0
  exact ⟨g, o, hA, hg, fun j u hu => (World.cell?_of_block (hk g hgp)).trans (hc j u hu)⟩
theorem leaves_put {P : Program} {fn : Func} {tmps tmps' : Array Value} {R : Ending → World → Prop} (hr : results fn tmps' = results fn tmps) : ∀ {ds : List Deferred} {u : FrameMode} {w : World}, Leaves P fn tmps R ds u w → Leaves P fn tmps' R ds u w
  | [], .returning, w, h => by unfold Leaves at *; rw [hr]; exact h
  | [], .panicking _, w, h => by unfold Leaves at *; exact h
  | [], .run, w, h => by unfold Leaves at *; exact h
  | d :: ds, u, w, h => by
    unfold Leaves at h ⊢
    obtain ⟨hu, fv, cap, f, args, ht, hi, hC⟩ := h
    refine ⟨hu, fv, cap, f, args, ht, hi, hC.mono ?_⟩
    intro e u' w' h'
    cases e with
    | returned v => exact leaves_put hr h'
    | panicked c => exact leaves_put hr h'
    | outgrown => exact h'
theorem C1.drew {w : World} {b : Nat} {v0 : Value} (h : C1 w b v0) : C1 w.drew b v0 := ⟨h.c0, h.fz, h.lt, h.one⟩
/-- The three results, from their cells. -/
theorem res3 {w : World} {p q r : Nat} {x y z : Value} {tmps : Array Value} (h1 : C1 w p x) (h2 : C1 w q y) (h3 : C1 w r z) (t1 : tmps[2]? = some (.pointer (some ⟨p, 0, none⟩))) (t2 : tmps[3]? = some (.pointer (some ⟨q, 0, none⟩))) (t3 : tmps[4]? = some (.pointer (some ⟨r, 0, none⟩))) :
    (results Tryd.f9 tmps).run Tryd.prog w = .ok (.tuple #[x, y, z]) w := by
  obtain ⟨c0, cz, cl, _⟩ := h1
  obtain ⟨d0, dz, dl, _⟩ := h2
  obtain ⟨e0, ez, el, _⟩ := h3
  simp only [results, Tryd.results9]
  go_simp
def ParseOut (R : List IV × Int × Nat) (tX tK : TypeId) (w : World) (ε : Ending) (w' : World) : Prop := Below w.heap.size w w' ∧ ∃ A c, ε = .returned (.tuple #[.slice A R.1.length c, .int .i64 R.2.1, .int .i64 R.2.2]) ∧ XsOwn w' w.heap.size tX tK A c R.1
theorem size_setCell' (w : World) (p : Addr) (u : Value) : (w.setCell p u).heap.size = w.heap.size := by simp
/-- What was thrown is caught. -/
theorem caught {w W : World} {p q r : Nat} {x y z : Value} {tmps cap dargs : Array Value} {fv : Fn} {tX tK : TypeId} {e : Int} {a : Nat} (h1 : C1 W p x) (h2 : C1 W q y) (h3 : C1 W r z) (n1 : p ≠ q) (n2 : p ≠ r) (n3 : q ≠ r) (l1 : w.heap.size ≤ p) (l2 : w.heap.size ≤ q) (l3 : w.heap.size ≤ r) (hb : Below w.heap.size w W)
    (t1 : tmps[2]? = some (.pointer (some ⟨p, 0, none⟩))) (t2 : tmps[3]? = some (.pointer (some ⟨q, 0, none⟩))) (t3 : tmps[4]? = some (.pointer (some ⟨r, 0, none⟩)))
    (hi : (invoke (.fn fv cap) dargs).run Tryd.prog W = .ok (.enter 23 #[.pointer (some ⟨p, 0, none⟩), .pointer (some ⟨q, 0, none⟩), .pointer (some ⟨r, 0, none⟩)]) W) :
    Leaves Tryd.prog Tryd.f9 tmps (ParseOut ([], e, a) tX tK w) [{ target := .fn fv cap, args := dargs }] (.panicking (flt e a)) W := by
  refine leaves_cons (by simp) hi ?_
  refine (catch_fault p q r e a x y z W h1.c0 h2.c0 h3.c0 h1.fz h2.fz h3.fz h1.lt h2.lt h3.lt n1 n2 n3).mono ?_
  rintro ε u' w' ⟨rfl, rfl, rfl⟩
  have k1 := (((h1.set0 (.slice none 0 0)).low (p := ⟨q, 0, none⟩) n1.symm (.int .i64 e)).low (p := ⟨r, 0, none⟩) n2.symm (.int .i64 a)).alloc (.cells #[.int .i64 e, .int .i64 a] 56)
  have k2 := (((h2.low (p := ⟨p, 0, none⟩) n1 (.slice none 0 0)).set0 (.int .i64 e)).low (p := ⟨r, 0, none⟩) n3.symm (.int .i64 a)).alloc (.cells #[.int .i64 e, .int .i64 a] 56)
  have k3 := (((h3.low (p := ⟨p, 0, none⟩) n2 (.slice none 0 0)).low (p := ⟨q, 0, none⟩) n3 (.int .i64 e)).set0 (.int .i64 a)).alloc (.cells #[.int .i64 e, .int .i64 a] 56)
  refine ⟨.tuple #[.slice none 0 0, .int .i64 e, .int .i64 a], res3 k1.drew k2.drew k3.drew t1 t2 t3, ?_, none, 0, rfl, XsOwn.nil _ _ _ _⟩
  have hz := hb.size
  ((with_reducible (repeat (first | exact bR _ _ | refine bS ?_ ?_ _ | refine bA ?_ ?_ _ | refine bD ?_ | refine bT ?_ (by assumption) ?_ | refine bO (by assumption) ?_ ?_))) <;> (first | omega | (simp; done) | (simp <;> omega)))
/-- Nothing was thrown. -/
theorem ended {w W : World} {p q r : Nat} {A : Option Addr} {c : Nat} {tmps cap dargs : Array Value} {fv : Fn} {tX tK : TypeId} {R : List IV × Int × Nat} (h1 : C1 W p (.slice A R.1.length c)) (h2 : C1 W q (.int .i64 R.2.1)) (h3 : C1 W r (.int .i64 R.2.2)) (hb : Below w.heap.size w W) (ho : XsOwn W w.heap.size tX tK A c R.1)
    (t1 : tmps[2]? = some (.pointer (some ⟨p, 0, none⟩))) (t2 : tmps[3]? = some (.pointer (some ⟨q, 0, none⟩))) (t3 : tmps[4]? = some (.pointer (some ⟨r, 0, none⟩)))
    (hi : (invoke (.fn fv cap) dargs).run Tryd.prog W = .ok (.enter 23 #[.pointer (some ⟨p, 0, none⟩), .pointer (some ⟨q, 0, none⟩), .pointer (some ⟨r, 0, none⟩)]) W) :
    Leaves Tryd.prog Tryd.f9 tmps (ParseOut R tX tK w) [{ target := .fn fv cap, args := dargs }] .returning W := by
  refine leaves_cons (by simp) hi ?_
  refine (catch_idle ⟨p, 0, none⟩ ⟨q, 0, none⟩ ⟨r, 0, none⟩ W).mono ?_
  rintro ε u' w' ⟨rfl, rfl, rfl⟩
  exact ⟨_, res3 h1 h2 h3 t1 t2 t3, hb, A, c, rfl, ho⟩
theorem res_put (tmps : Array Value) (v : Value) (k : Nat) (h : k ≠ 2 ∧ k ≠ 3 ∧ k ≠ 4) : results Tryd.f9 tmps = results Tryd.f9 (tmps.setIfInBounds k v) := by
  simp only [results, Tryd.results9]
  simp [Array.getElem?_setIfInBounds, h.1, h.2.1, h.2.2]
set_option maxRecDepth 100000 in
set_option maxHeartbeats 4000000 in
theorem parse_any (s : ByteArray) (w : World) (hm : s.size ≤ maxLen) (ht : Tabs w) : Calls Tryd.prog 9 #[.string s] w (ParseOut (parseR s) 35 71 w) := by
  have hmf : ∀ (fn : Fn) (first cap : Array Value) (w : World), (Instr.makeFunc fn first cap).run Tryd.prog w = .ok (.func fn first cap) w := fun _ _ _ _ => rfl
  have HT := Lib.hid ht
  have h3 := ht.three
  have K := fun W => words_any s W hm
  have hL := scanR_len s
  have hP : parseR s = if (scanR s).2.1 ≠ 0 then ([], (scanR s).2.1, (scanR s).2.2) else parseF s.size ((scanR s).1.length + 1) [] (scanR s).1 := rfl
  obtain ⟨⟨L, er, pl⟩, hR⟩ : ∃ R, R = scanR s := ⟨_, rfl⟩
  rw [← hR] at K hL hP
  simp only at K hL hP
  clear hR ht
  have a1 := ((C1.new w (.slice none 0 0) 23).alloc (.cells #[.int .i64 0] 24)).alloc (.cells #[.int .i64 0] 3)
  have a2 := (C1.at (w.alloc (.cells #[.slice none 0 0] 23)) (w.heap.size + 1) (.int .i64 0) 24 (by simp)).alloc (.cells #[.int .i64 0] 3)
  have a3 := C1.at ((w.alloc (.cells #[.slice none 0 0] 23)).alloc (.cells #[.int .i64 0] 24)) (w.heap.size + 1 + 1) (.int .i64 0) 3 (by simp)
  have hb0 := (((Below.refl w.heap.size w).alloc (Nat.le_refl _) (.cells #[.slice none 0 0] 23)).alloc (by simp) (.cells #[.int .i64 0] 24)).alloc (by simp; omega) (.cells #[.int .i64 0] 3)
  by_cases her : er = 0
  · subst her
    rw [if_neg (by simp)] at hP
    obtain ⟨R, hR⟩ : ∃ R, R = parseR s := ⟨_, rfl⟩
    rw [← hR] at hP ⊢
    have HR := Lib.hid hP
    clear hP hR
    go_enter_defers Tryd.func9, Tryd.ntmps9
    go_wp2_with (go_at_call 22; refine (K _).mono ?_; rintro e w1 ⟨hb1, v1, rfl, ho1⟩; obtain ⟨A1, c1, rfl⟩ := own_sl ho1; have B1 := Lib.hid (a1.below hb1 (by simp; omega)); have B2 := Lib.hid (a2.below hb1 (by simp)); have B3 := Lib.hid (a3.below hb1 (by simp)); obtain ⟨d0, dz, dl, _⟩ := B1.out; obtain ⟨e0, ez, el, _⟩ := B2.out; obtain ⟨f0, fz, fl, _⟩ := B3.out)
    have hbw : Below w.heap.size w w1 := hb0.trans (hb1.mono (by simp; omega))
    have n1 : w.heap.size ≠ w.heap.size + 1 := by omega
    have n2 : w.heap.size ≠ w.heap.size + 1 + 1 := by omega
    have n3 : w.heap.size + 1 ≠ w.heap.size + 1 + 1 := by omega
    have ho2 := ownr_low (ownr_low ho1 (p := ⟨w.heap.size + 1, 0, none⟩) (by simp) (.int .i64 0)) (p := ⟨w.heap.size + 1 + 1, 0, none⟩) (by simp) (.int .i64 pl)
    have hws := own_wvat ho2
    have hcap : L.length ≤ c1 := by
      rcases Nat.eq_zero_or_pos L.length with h | h
      · omega
      · obtain ⟨g, _, _, _, hc, _⟩ := own_cells ho2 h; exact hc
    have hrd := RdAt.new (t := 59) (e := s.size) hws (Nat.le_refl _) hcap rfl
    have k1 := ((B1.out.low (p := ⟨w.heap.size + 1, 0, none⟩) n1.symm (.int .i64 0)).low (p := ⟨w.heap.size + 1 + 1, 0, none⟩) n2.symm (.int .i64 pl)).alloc (.cells #[.slice A1 L.length c1, .int .i64 s.size] 59)
    have k2 := ((B2.out.set0 (.int .i64 0)).low (p := ⟨w.heap.size + 1 + 1, 0, none⟩) n3.symm (.int .i64 pl)).alloc (.cells #[.slice A1 L.length c1, .int .i64 s.size] 59)
    have k3 := ((B3.out.low (p := ⟨w.heap.size + 1, 0, none⟩) n3 (.int .i64 0)).set0 (.int .i64 pl)).alloc (.cells #[.slice A1 L.length c1, .int .i64 s.size] 59)
    have hz1 := hbw.size
    have hbl : Below w.heap.size w (((w1.setCell ⟨w.heap.size + 1, 0, none⟩ (.int .i64 0)).setCell ⟨w.heap.size + 1 + 1, 0, none⟩ (.int .i64 pl)).alloc (.cells #[.slice A1 L.length c1, .int .i64 s.size] 59)) := by
      ((with_reducible (repeat (first | exact bR _ _ | refine bS ?_ ?_ _ | refine bA ?_ ?_ _ | refine bD ?_ | refine bT ?_ (by assumption) ?_ | refine bO (by assumption) ?_ ?_))) <;> (first | omega | (simp; done) | (simp <;> omega)))
    have HTl := Lib.hid (HT.out.below hbl h3)
    obtain ⟨RB, hRB⟩ : ∃ RB, RB = w1.heap.size := ⟨_, rfl⟩
    simp only [size_setCell'] at hrd
    rw [← hRB] at hrd ⊢
    have hlt : w.heap.size + 3 ≤ RB := by omega
    clear B1 B2 B3 hRB hws ho2 ho1 hb1 hbw hz1 d0 dz dl e0 ez el f0 fz fl a1 a2 a3 hb0 hcap HT
    go_loopg [] (L.length + 1) (fun gk wr => ∃ (l : List WV) (A : Option Addr) (c : Nat) (acc : List IV) (B : Option Addr) (d f : Nat), l.length < gk ∧ l.length < f ∧ l.length ≤ 20000 ∧ acc.length ≤ 400 ∧ Below w.heap.size w wr ∧ C1 wr w.heap.size (.slice B acc.length d) ∧ C1 wr (w.heap.size + 1) (.int .i64 0) ∧ C1 wr (w.heap.size + 1 + 1) (.int .i64 pl) ∧ Hid (XsOwn wr (RB + 1) 35 71 B d acc) ∧ RdAt wr RB RB A l s.size c ∧ Hid (R = parseF s.size f acc l) ∧ Hid (Tabs wr))
    case atStart => exact ⟨L, A1, c1, [], none, 0, L.length + 1, by omega, by omega, hL, by simp, hbl, k1, k2, k3, Lib.hid (XsOwn.nil _ _ _ _), hrd, HR, HTl⟩
    case round =>
      clear k1 k2 k3 hbl hrd HR HTl
      obtain ⟨l, A, c, acc, B, d, f, hlk, hlf, hll, hac, hbr, k1, k2, k3, HO, hr, HJ, HTr⟩ := hrel
      have hr0 := hr.lt
      obtain ⟨f, rfl⟩ : ∃ g, f = g + 1 := ⟨f - 1, by omega⟩
      have K1 := Lib.hid k1
      have K2 := Lib.hid k2
      have K3 := Lib.hid k3
      have HRD := Lib.hid hr
      obtain ⟨d0, dz, dl, _⟩ := k1
      obtain ⟨e0, ez, el, _⟩ := k2
      obtain ⟨f0, fz, fl, _⟩ := k3
      obtain ⟨r0, r1, rz, rl, rn, rc, rw'⟩ := hr
      clear rw'
      cases l with
      | nil =>
        simp only [List.length_nil] at r0
        obtain rfl : R = (acc, 0, 0) := HJ.out
        go_wp2_with fail
        simp only [bodyPostD]
        refine ended (R := (acc, 0, 0)) (((K1.out.set0 _).low (p := ⟨w.heap.size + 1, 0, none⟩) n1.symm _).low (p := ⟨w.heap.size + 1 + 1, 0, none⟩) n2.symm _) (((K2.out.low (p := ⟨w.heap.size, 0, none⟩) n1 _).set0 _).low (p := ⟨w.heap.size + 1 + 1, 0, none⟩) n3.symm _) (((K3.out.low (p := ⟨w.heap.size, 0, none⟩) n2 _).low (p := ⟨w.heap.size + 1, 0, none⟩) n3 _).set0 _) ?_ ((((HO.out.low (p := ⟨w.heap.size, 0, none⟩) (by show w.heap.size < _; omega) _).low (p := ⟨w.heap.size + 1, 0, none⟩) (by show w.heap.size + 1 < _; omega) _).low (p := ⟨w.heap.size + 1 + 1, 0, none⟩) (by show w.heap.size + 1 + 1 < _; omega) _).weaker (by omega)) rfl rfl rfl (by simp [go_sem])
        have hzr := hbr.size
        ((with_reducible (repeat (first | exact bR _ _ | refine bS ?_ ?_ _ | refine bA ?_ ?_ _ | refine bD ?_ | refine bT ?_ (by assumption) ?_ | refine bO (by assumption) ?_ ?_))) <;> (first | omega | (simp; done) | (simp <;> omega)))
      | cons x l =>
        simp only [List.length_cons] at r0 hlk hlf hll
        have i1 : (0 : Int) < ((l.length + 1 : Nat) : Int) := by omega
        by_cases h4 : acc.length = 400
        · obtain rfl : R = ([], 9, x.at_) := by rw [HJ.out]; simp only [parseF]; rw [if_pos h4]
          go_wp2_with (go_at_call 24; refine (at_any _ _ _ _ _ _ _ HRD.out).mono ?_; rintro e w3 ⟨rfl, rfl⟩)
          simp only [bodyPostD]
          exact caught K1.out K2.out K3.out n1 n2 n3 (Nat.le_refl _) (by omega) (by omega) hbr rfl rfl rfl (by simp [go_sem])
        · have h4' : ¬ (acc.length : Int) = 400 := by omega
          cases hI : itemF s.size (x :: l) with
          | err a b =>
            obtain rfl : R = ([], a, b) := by rw [HJ.out]; simp only [parseF]; rw [if_neg h4, hI]
            go_wp2_with fail
            have hS0 : C1 wr.drew w.heap.size (.slice B acc.length d) := K1.out.drew
            refine wp_region_Z (fun W => C1 W w.heap.size (.slice B acc.length d)) 4 [4, 5] (by kernel_rfl) (by kernel_rfl) ?_
            refine wpZ_step (i := 0) rfl (by kernel_rfl) rfl (.slice B acc.length d) (fun c a w h => leaves_put (res_put _ _ 36 (by decide)) h) (by assumption) (fun W hW => by obtain ⟨s0, sz, sl, _⟩ := hW; go_simp) (fun K hK => ?_); go_simp; refine hK _ _ ?_; clear hK K
            refine wpZ_step (i := 1) rfl (by kernel_rfl) rfl (.pointer (some ⟨RB, 0, none⟩)) (fun c a w h => leaves_put (res_put _ _ 37 (by decide)) h) (by assumption) (fun W hW => by obtain ⟨s0, sz, sl, _⟩ := hW; go_simp) (fun K hK => ?_); go_simp; refine hK _ _ ?_; clear hK K
            refine wpZ_one (i := 2) rfl (by kernel_rfl) rfl (fun K hK => ?_)
            go_simp
            (go_at_call 25; refine (item_any _ _ _ _ _ _ _ HRD.out.drew (HTr.out.below ((Below.refl wr.heap.size wr).drew) (by omega)) (by omega) (by simp only [List.length_cons]; omega)).mono ?_; rintro e w6 ⟨hb6, hq⟩; rw [hI] at hq; obtain rfl := hq)
            exact caught (K1.out.but hb6.of_drew (by omega)) (K2.out.but hb6.of_drew (by omega)) (K3.out.but hb6.of_drew (by omega)) n1 n2 n3 (Nat.le_refl _) (by omega) (by omega) (hbr.trans (hb6.of_drew.toBelow (by omega) hbr.size)) rfl rfl rfl (by simp [go_sem])
          | ok y l' =>
            have HJ2 : Hid (R = parseF s.size f (acc ++ [y]) l') := Lib.hid (by rw [HJ.out]; simp only [parseF]; rw [if_neg h4, hI])
            have hlen := itemF_len hI
            simp only [List.length_cons] at hlen
            go_wp2_with fail
            have hS0 : C1 wr.drew w.heap.size (.slice B acc.length d) := K1.out.drew
            refine wp_region_Z (fun W => C1 W w.heap.size (.slice B acc.length d)) 4 [4, 5] (by kernel_rfl) (by kernel_rfl) ?_
            refine wpZ_step (i := 0) rfl (by kernel_rfl) rfl (.slice B acc.length d) (fun c a w h => leaves_put (res_put _ _ 36 (by decide)) h) (by assumption) (fun W hW => by obtain ⟨s0, sz, sl, _⟩ := hW; go_simp) (fun K hK => ?_); go_simp; refine hK _ _ ?_; clear hK K
            refine wpZ_step (i := 1) rfl (by kernel_rfl) rfl (.pointer (some ⟨RB, 0, none⟩)) (fun c a w h => leaves_put (res_put _ _ 37 (by decide)) h) (by assumption) (fun W hW => by obtain ⟨s0, sz, sl, _⟩ := hW; go_simp) (fun K hK => ?_); go_simp; refine hK _ _ ?_; clear hK K
            refine wpZ_one (i := 2) rfl (by kernel_rfl) rfl (fun K hK => ?_)
            go_simp
            (go_at_call 25; refine (item_any _ _ _ _ _ _ _ HRD.out.drew (HTr.out.below ((Below.refl wr.heap.size wr).drew) (by omega)) (by omega) (by simp only [List.length_cons]; omega)).mono ?_; rintro e w6 ⟨hb6, hq⟩; rw [hI] at hq; obtain ⟨B', d', A6, c6, rfl, ho6, h6⟩ := hq; simp only [vOfX])
            replace hb6 := hb6.of_drew
            have g1 := K1.out.but hb6 (by omega)
            have g2 := K2.out.but hb6 (by omega)
            have g3 := K3.out.but hb6 (by omega)
            have HT6 := Lib.hid (HTr.out.but hb6 (by omega))
            have hO6 := HO.out.but hb6 (by omega)
            have hz6 := hb6.size
            have ho6' := ho6.weaker (base' := RB + 1) (by show RB + 1 ≤ wr.heap.size; omega)
            have hbl6 := hbr.trans (hb6.toBelow (B := w.heap.size) (by omega) hbr.size)
            refine ⟨g1, hK _ _ ?_⟩
            clear hK K hS0 ho6
            refine wpZ_one (i := 3) rfl (by kernel_rfl) rfl (fun K hK => ?_)
            go_simp
            refine ⟨g1.alloc _, hK _ _ ?_⟩
            clear hK K
            refine wpZ_nil (by kernel_rfl) ?_
            simp only [List.filterMap_cons, List.filterMap_nil, List.getElem?_cons_succ, List.getElem?_cons_zero]
            have hbe := (Below.refl w6.heap.size w6).alloc (Nat.le_refl _) (.cells #[.string y.word, .string y.name, .slice B' y.keys.length d', .int .i64 y.at_] 35)
            obtain ⟨xs, hxs, hmore⟩ := (hO6.below hbe (Nat.le_refl _)).more (by decide) (by decide)
            have hfr := own_fresh hxs
            refine wpList_append_one rfl _ _ 23 35 _ 4 64 rfl Tryd.underlying23 itemInfo rfl (by decide) (by decide) (RB + 1) (.slice B acc.length d) acc.length xs (cellsOfX y B' d') rfl hxs w6.heap.size 1 rfl rfl (C4.new w6 _ _ _ _ _).cells (by simp [cellsOfX, Value.oneCell']) (by omega) (by simp; omega) ?_
            intro v7 w7 ho7 hg7 _
            obtain ⟨B7, d7, rfl, hx7⟩ := hmore y B' d' v7 w7 (ho6'.below hbe (Nat.le_refl _)) ho7 hg7
            have q1 := (g1.alloc (.cells #[.string y.word, .string y.name, .slice B' y.keys.length d', .int .i64 y.at_] 35)).grown hg7 hfr (by omega)
            have q2 := (g2.alloc (.cells #[.string y.word, .string y.name, .slice B' y.keys.length d', .int .i64 y.at_] 35)).grown hg7 hfr (by omega)
            have q3 := (g3.alloc (.cells #[.string y.word, .string y.name, .slice B' y.keys.length d', .int .i64 y.at_] 35)).grown hg7 hfr (by omega)
            have h7 := (h6.alloc (.cells #[.string y.word, .string y.name, .slice B' y.keys.length d', .int .i64 y.at_] 35)).grown hg7 (fun k hk => by have := hfr k hk; omega)
            have hb7 := (hbl6.alloc hbl6.size (.cells #[.string y.word, .string y.name, .slice B' y.keys.length d', .int .i64 y.at_] 35)).grown hg7 (by have := hbl6.size; simp; omega) (fun k hk => by have := hfr k hk; omega)
            have HT7 := Lib.hid ((HT6.out.alloc (.cells #[.string y.word, .string y.name, .slice B' y.keys.length d', .int .i64 y.at_] 35)).grown hg7 (fun k hk => by have := hfr k hk; omega))
            have HX7 := Lib.hid hx7
            have Q1 := Lib.hid q1
            obtain ⟨s0, sz, sl, _⟩ := q1
            clear hxs hmore hfr hbe g1 g2 g3 hO6 ho6' ho7 hg7 hx7
            go_simp
            go_wp2_with fail
            go_roundg (l.length + 1)
            case measure => omega
            case rel => exact ⟨l', A6, c6, acc ++ [y], B7, d7, f, by omega, by omega, by omega, by simp only [List.length_append, List.length_cons, List.length_nil]; omega, by have hz7 := hb7.size; ((with_reducible (repeat (first | exact bR _ _ | refine bS ?_ ?_ _ | refine bA ?_ ?_ _ | refine bD ?_ | refine bT ?_ (by assumption) ?_ | refine bO (by assumption) ?_ ?_))) <;> (first | omega | (simp; done) | (simp <;> omega))), by simpa using Q1.out.set0 _, q2.low (by show w.heap.size ≠ _; omega) _, q3.low (by show w.heap.size ≠ _; omega) _, Lib.hid (HX7.out.low (by show w.heap.size < _; omega) _), h7.set_one Q1.out (by omega) _, HJ2, Lib.hid (HT7.out.set (by show 3 ≤ w.heap.size; omega) _)⟩
  · rw [if_pos her] at hP
    rw [hP]
    clear hP
    go_enter_defers Tryd.func9, Tryd.ntmps9
    go_wp2_with (go_at_call 22; refine (K _).mono ?_; rintro e w1 ⟨hb1, v1, rfl, ho1⟩; have B1 := Lib.hid (a1.below hb1 (by simp; omega)); have B2 := Lib.hid (a2.below hb1 (by simp)); have B3 := Lib.hid (a3.below hb1 (by simp)); obtain ⟨d0, dz, dl, _⟩ := B1.out; obtain ⟨e0, ez, el, _⟩ := B2.out; obtain ⟨f0, fz, fl, _⟩ := B3.out)
    go_region
    have hbw : Below w.heap.size w w1 := hb0.trans (hb1.mono (by simp; omega))
    go_wp2_with fail
    have n1 : w.heap.size ≠ w.heap.size + 1 := by omega
    have n2 : w.heap.size ≠ w.heap.size + 1 + 1 := by omega
    have n3 : w.heap.size + 1 ≠ w.heap.size + 1 + 1 := by omega
    have k1 := ((((B1.out.low (p := ⟨w.heap.size + 1, 0, none⟩) n1.symm (.int .i64 er)).low (p := ⟨w.heap.size + 1 + 1, 0, none⟩) n2.symm (.int .i64 pl)).set0 (.slice none 0 0)).low (p := ⟨w.heap.size + 1, 0, none⟩) n1.symm (.int .i64 er)).low (p := ⟨w.heap.size + 1 + 1, 0, none⟩) n2.symm (.int .i64 pl)
    have k2 := ((((B2.out.set0 (.int .i64 er)).low (p := ⟨w.heap.size + 1 + 1, 0, none⟩) n3.symm (.int .i64 pl)).low (p := ⟨w.heap.size, 0, none⟩) n1 (.slice none 0 0)).set0 (.int .i64 er)).low (p := ⟨w.heap.size + 1 + 1, 0, none⟩) n3.symm (.int .i64 pl)
    have k3 := ((((B3.out.low (p := ⟨w.heap.size + 1, 0, none⟩) n3 (.int .i64 er)).set0 (.int .i64 pl)).low (p := ⟨w.heap.size, 0, none⟩) n2 (.slice none 0 0)).low (p := ⟨w.heap.size + 1, 0, none⟩) n3 (.int .i64 er)).set0 (.int .i64 pl)
    simp only [bodyPostD, Leaves]
    refine ⟨.tuple #[.slice none 0 0, .int .i64 er, .int .i64 pl], res3 k1.drew k2.drew k3.drew rfl rfl rfl, ?_, none, 0, rfl, XsOwn.nil _ _ _ _⟩
    ((with_reducible (repeat (first | exact bR _ _ | refine bS ?_ ?_ _ | refine bA ?_ ?_ _ | refine bD ?_ | refine bT ?_ (by assumption) ?_ | refine bO (by assumption) ?_ ?_))) <;> (first | omega | (simp; done) | (simp <;> omega)))
end Go.Proofs.YteondblmcooklaaDoor
