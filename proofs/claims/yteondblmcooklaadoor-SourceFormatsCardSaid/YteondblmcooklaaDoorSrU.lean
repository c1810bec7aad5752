/- The contract of the reference's Parse. -/
import Derived.Test.YteondblmcooklaaDoorSrT
import Derived.Test.YteondblmcooklaaDoorSaE
namespace Go.Proofs.YteondblmcooklaaDoor
open Go Go.RowKit
set_option linter.unusedVariables false
theorem RRd.new {W : World} {N : Nat} {A : Option Addr} {L : List WV} {e c b : Nat} {t : TypeId} (hw : WvAt W N A L) (hN : N ≤ W.heap.size) (hl : L.length ≤ 20000) (hb : b = W.heap.size) : RRd (W.alloc (.cells #[.slice A L.length c, .int .i64 0, .int .i64 e] t)) b N A L 0 e c := by
  subst hb
  refine ⟨by go_simp, by go_simp, by go_simp, fun o => by go_simp, by simp, hN, hl, fun k x hx => ?_⟩
  obtain ⟨g, o, hA, hg, hc⟩ := hw k x hx
  exact ⟨g, o, hA, hg, fun j u hu => by rw [World.cell?_of_block (heap_alloc_old W _ (show g < W.heap.size by omega))]; exact hc j u hu⟩
theorem C4.at (w : World) (b : Nat) (v0 v1 v2 v3 : Value) (e : TypeId) (hb : b = w.heap.size) : C4 (w.alloc (.cells #[v0, v1, v2, v3] e)) b v0 v1 v2 v3 := hb ▸ C4.new w v0 v1 v2 v3 e
theorem pin_list {P : Program} {ops : Array Oper} {Q : Exit → Act → World → Prop} {l : List Oper} {a : Act} {w : World} (h : ∀ w', w' = w → wpList P ops Q l a w') : wpList P ops Q l a w := h w rfl
set_option maxRecDepth 100000 in
set_option maxHeartbeats 4000000 in
theorem rparse_any (s : ByteArray) (w : World) (hm : s.size ≤ maxLen) : Calls Tryd.prog 10 #[.string s] w (ParseOut (parseR s) 43 72 w) := by
  have K := fun W => rwords_any s W hm
  have hL := scanR_len s
  have hP : parseR s = if (scanR s).2.1 ≠ 0 then ([], (scanR s).2.1, (scanR s).2.2) else parseF s.size ((scanR s).1.length + 1) [] (scanR s).1 := rfl
  obtain ⟨⟨L, er, pl⟩, hR⟩ : ∃ R, R = scanR s := ⟨_, rfl⟩
  rw [← hR] at K hL hP
  simp only at K hL hP
  clear hR
  by_cases her : er = 0
  · subst her
    rw [if_neg (by simp)] at hP
    obtain ⟨R, hR⟩ : ∃ R, R = parseR s := ⟨_, rfl⟩
    rw [← hR] at hP ⊢
    have HR := Lib.hid hP
    clear hP hR
    go_enter Tryd.func10, Tryd.ntmps10; (try simp only [List.append_eq, List.cons_append, List.nil_append])
    go_wp2_with (go_at_call 26; refine (K _).mono ?_; rintro e w1 ⟨hb1, v1, rfl, ho1⟩; obtain ⟨A1, c1, rfl⟩ := own_sl ho1)
    have hws := own_wvat ho1
    have hrd := RRd.new (t := 67) (e := s.size) (c := c1) hws (Nat.le_refl _) hL rfl
    have hz1 := hb1.size
    obtain ⟨RB, hRB⟩ : ∃ RB, RB = w1.heap.size := ⟨_, rfl⟩
    rw [← hRB] at hrd ⊢
    have hlt : w.heap.size ≤ RB := by omega
    (refine pin_eq (fun w2 hE_w2 => ?_))
    have hr2 : RRd w2 RB RB A1 L 0 s.size c1 := by rw [hE_w2]; exact hrd
    have hbl : Below w.heap.size w w2 := by rw [hE_w2]; exact hb1.alloc hz1 _
    clear hE_w2 hrd hws ho1 hb1 hRB hz1 K
    go_loopg [9] (L.length + 1) (fun gk t wr => ∃ (i : Nat) (acc : List IV) (B : Option Addr) (d f : Nat), i ≤ L.length ∧ L.length - i < gk ∧ L.length - i < f ∧ acc.length ≤ 400 ∧ t = .slice B acc.length d ∧ Below w.heap.size w wr ∧ Hid (XsOwn wr (RB + 1) 43 72 B d acc) ∧ RRd wr RB RB A1 L i s.size c1 ∧ Hid (R = parseF s.size f acc (L.drop i)))
    case atStart => exact ⟨0, [], none, 0, L.length + 1, by omega, by omega, by omega, by simp, rfl, hbl, Lib.hid (XsOwn.nil _ _ _ _), hr2, HR⟩
    case round =>
      clear hr2 hbl HR
      obtain ⟨i, acc, B, d, f, hi, hik, hif, hac, rfl, hbr, HO, hrr, HJ⟩ := hrel
      obtain ⟨f, rfl⟩ : ∃ q, f = q + 1 := ⟨f - 1, by omega⟩
      have HRD := Lib.hid hrr
      have q0 := hrr.hw
      have q1 := hrr.hi
      have qz := hrr.fz
      have ql := hrr.lt
      clear hrr
      rcases Nat.lt_or_ge i L.length with hl | hl
      · obtain ⟨x, hx⟩ : ∃ x, L[i]? = some x := ⟨L[i], by simp⟩
        have HX := Lib.hid hx
        have i1 : (i : Int) < (L.length : Int) := by omega
        clear hx
        by_cases h4 : acc.length = 400
        · obtain rfl : R = ([], 9, x.at_) := by rw [HJ.out, drop_get HX.out]; simp only [parseF]; rw [if_pos h4]
          have i4 : (acc.length : Int) = 400 := by omega
          clear h4
          go_wp2_with (go_at_call 27; refine (rat_at HRD.out HX.out).mono ?_; rintro e w3 ⟨rfl, hb3⟩)
          go_ret3
          exact ⟨hbr.trans (hb3.mono hbr.size), none, 0, rfl, XsOwn.nil _ _ _ _⟩
        · have i4 : ¬ (acc.length : Int) = 400 := by omega
          cases hI : itemF s.size (L.drop i) with
          | err a b =>
            have ha := itemF_err hI
            obtain rfl : R = ([], a, b) := by rw [HJ.out]; rw [drop_get HX.out] at hI ⊢; simp only [parseF]; rw [if_neg h4, hI]
            have HI := Lib.hid hI
            clear h4 hI
            go_wp2_with fail
            (go_at_call 28; refine (rstatement_any _ _ _ _ _ _ _ _ HRD.out hl).mono ?_; rintro e w6 ⟨hb6, hq⟩; rw [HI.out] at hq; obtain ⟨v0, v1, v2, n2, d2, v3, i6, rfl, hi6, hat6, hr6⟩ := hq)
            have hbl6 := hbr.trans (hb6.toBelow (B := w.heap.size) (by omega) hbr.size)
            have hz6 := hb6.size
            have HR6 := Lib.hid hr6
            have hrl := hr6.lt
            clear q0 q1 qz ql hb6 hr6
            go_wp2_with fail
            (first | refine pin_eq (fun w7 hE_w7 => ?_) | refine pin_callseq (fun w7 hE_w7 => ?_))
            have hr7 : RRd w7 RB RB A1 L i6 s.size c1 := by rw [hE_w7]; exact HR6.out.alloc _
            have hb7 : Below w.heap.size w w7 := by rw [hE_w7]; have hz := hbl6.size; ((with_reducible (repeat (first | exact bR _ _ | refine bS ?_ ?_ _ | refine bA ?_ ?_ _ | refine bD ?_ | refine bT ?_ (by assumption) ?_ | refine bO (by assumption) ?_ ?_))) <;> (first | omega | (simp; done) | (simp <;> omega)))
            clear hE_w7
            (go_at_call 27; refine (rat_any _ _ _ _ _ _ _ _ hr7 hi6).mono ?_; rintro e w8 ⟨rfl, hb8⟩; rw [hat6])
            go_wp2_with fail
            go_ret3
            exact ⟨hb7.trans (hb8.mono hb7.size), none, 0, rfl, XsOwn.nil _ _ _ _⟩
          | ok y l' =>
            have HJ2 : Hid (R = parseF s.size f (acc ++ [y]) l') := Lib.hid (by rw [HJ.out]; rw [drop_get HX.out] at hI ⊢; simp only [parseF]; rw [if_neg h4, hI])
            have hlen := itemF_len hI
            rw [List.length_drop] at hlen
            have HI := Lib.hid hI
            clear h4 hI
            go_wp2_with fail
            (go_at_call 28; refine (rstatement_any _ _ _ _ _ _ _ _ HRD.out hl).mono ?_; rintro e w6 ⟨hb6, hq⟩; rw [HI.out] at hq; obtain ⟨B', d', i6, rfl, ho6, hi6, hdr6, hr6⟩ := hq; simp only [vOfX])
            have hO6 := HO.out.but hb6 (by omega)
            have hz6 := hb6.size
            have ho6' := ho6.weaker (base' := RB + 1) (by show RB + 1 ≤ wr.heap.size; omega)
            have hbl6 := hbr.trans (hb6.toBelow (B := w.heap.size) (by omega) hbr.size)
            have HB6 := Lib.hid hbl6
            have HR6 := Lib.hid hr6
            have HO6 := Lib.hid hO6
            have HP6 := Lib.hid ho6'
            have hrl := hr6.lt
            have hldr : L.length - i6 < L.length - i := by have := congrArg List.length hdr6; rw [List.length_drop] at this; omega
            clear ho6 ho6' hO6 hb6 hbl6 hr6 q0 q1 qz ql HO HRD
            have hbe := ((Below.refl w6.heap.size w6).alloc (Nat.le_refl _) (.cells #[.string y.word, .string y.name, .slice B' y.keys.length d', .int .i64 y.at_] 43)).alloc (by simp) (.cells #[.string y.word, .string y.name, .slice B' y.keys.length d', .int .i64 y.at_] 43)
            obtain ⟨xs, hxs, hmore⟩ := (HO6.out.below hbe (Nat.le_refl _)).more (by decide) (by decide)
            have hfr := Lib.hid (own_fresh hxs)
            have ho8 := Lib.hid (HP6.out.below hbe (Nat.le_refl _))
            have hb8 := Lib.hid (HB6.out.trans (hbe.mono HB6.out.size))
            have hr8 := Lib.hid ((HR6.out.alloc (.cells #[.string y.word, .string y.name, .slice B' y.keys.length d', .int .i64 y.at_] 43)).alloc (.cells #[.string y.word, .string y.name, .slice B' y.keys.length d', .int .i64 y.at_] 43))
            have hlt6 : RB + 1 ≤ w6.heap.size + 1 + 1 := by omega
            have hmore := Lib.hid hmore
            have hxs := Lib.hid hxs
            clear hbe
            go_wp2_with (at_builtin; go_must (refine wpList_append_one rfl _ _ 27 43 _ 4 64 rfl Tryd.underlying27 ritemInfo rfl (by decide) (by decide) (RB + 1) (.slice B acc.length d) acc.length xs (cellsOfX y B' d') rfl hxs.out (w6.heap.size + 1) 1 rfl (by first | rfl | go_simp | trace_state) (C4.at (w6.alloc (.cells #[.string y.word, .string y.name, .slice B' y.keys.length d', .int .i64 y.at_] 43)) (w6.heap.size + 1) _ _ _ _ _ (by simp)).cells (by simp [cellsOfX, Value.oneCell']) (by omega) (by simpa using hlt6) ?_))
            intro v7 w9 ho9 hg9 _
            obtain ⟨B7, d7, rfl, hx9⟩ := hmore.out y B' d' v7 w9 ho8.out ho9 hg9
            have hr9 := hr8.out.grown hg9 (fun k hk => by have := hfr.out k hk; omega)
            have hb9 := hb8.out.grown hg9 (by have := hb8.out.size; omega) (fun k hk => by have := hfr.out k hk; omega)
            have HX9 := Lib.hid hx9
            clear hx9 ho9 hg9 hr8 hb8 hmore hxs hfr ho8
            go_wp2_with fail
            go_roundg (L.length - i6 + 1)
            case measure => omega
            case rel => exact ⟨i6, acc ++ [y], B7, d7, f, hi6, by omega, by omega, by simp only [List.length_append, List.length_cons, List.length_nil]; omega, by simp, hb9, HX9, hr9, by rw [hdr6]; exact HJ2⟩
      · obtain rfl : i = L.length := by omega
        obtain rfl : R = (acc, 0, 0) := by rw [HJ.out, List.drop_length]; rfl
        go_wp2_with fail
        go_ret3
        exact ⟨hbr, B, d, rfl, HO.out.weaker (by omega)⟩
  · rw [if_pos her] at hP
    rw [hP]
    clear hP
    go_enter Tryd.func10, Tryd.ntmps10; (try simp only [List.append_eq, List.cons_append, List.nil_append])
    go_wp2_with (go_at_call 26; refine (K _).mono ?_; rintro e w1 ⟨hb1, v1, rfl, ho1⟩; obtain ⟨A1, c1, rfl⟩ := own_sl ho1)
    go_ret3
    exact ⟨hb1, none, 0, rfl, XsOwn.nil _ _ _ _⟩
end Go.Proofs.YteondblmcooklaaDoor
