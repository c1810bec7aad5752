/- The contracts of scan.Words and of the reference's Words. -/
import Derived.Test.YteondblmcooklaaDoorScanR
namespace Go.Proofs.YteondblmcooklaaDoor
open Go.RowKit
set_option linter.unusedVariables false
attribute [local go_sem] cOf_get
def cellsOfW (x : WV) : List Value := [.int .i64 x.kind, .string x.text, .int .i64 x.num, .int .i64 x.at_]
def flatW (l : List WV) : List Value := l.flatMap cellsOfW
theorem flatW_snoc (l : List WV) (x : WV) : flatW (l ++ [x]) = flatW l ++ cellsOfW x := by simp [flatW]
theorem flatW_len (l : List WV) : (flatW l).length = l.length * 4 := by
  induction l with
  | nil => rfl
  | cons x l ih => simp only [flatW, List.flatMap_cons, List.length_append, List.length_cons] at *; rw [ih]; simp [cellsOfW]; omega
theorem own_below {w w1 : World} {base B : Nat} {e : TypeId} {size n : Nat} {v : Value} {xs : List Value} (h : w.ownsRow base e size v n xs) (hb : Below B w w1) (hB : w.heap.size ≤ B) : w1.ownsRow base e size v n xs := by
  obtain ⟨h1, h2⟩ := h
  refine ⟨h1, ?_⟩
  rcases h2 with h2 | ⟨g, cap, cur, hv, hg, hh, r⟩
  · exact .inl h2
  · have hlt : g < w.heap.size := by
      rcases Nat.lt_or_ge g w.heap.size with h | h
      · exact h
      · rw [Array.getElem?_eq_none h] at hh; cases hh
    exact .inr ⟨g, cap, cur, hv, hg, by rw [hb.block g (by omega)]; exact hh, r⟩
theorem cells_new {W : World} (cs : List Value) (E : TypeId) (b : Nat) (hb : b = W.heap.size) : ∀ (j : Nat) (u : Value), cs[j]? = some u → (W.alloc (.cells cs.toArray E)).cell? ((⟨b, 0, none⟩ : Addr).add j) = some u := by
  intro j u hu
  subst hb
  have : (⟨W.heap.size, 0, none⟩ : Addr).add j = ⟨W.heap.size, j, none⟩ := by unfold Addr.add; split <;> simp_all
  rw [this, World.cell?_alloc_new]
  simpa using hu
theorem own_fresh {w : World} {base : Nat} {e : TypeId} {size n : Nat} {v : Value} {xs : List Value} (h : w.ownsRow base e size v n xs) : ∀ k, v.ownBlock = some k → base ≤ k := fun k hk => (h.lt k hk).1
theorem wordInfo : (Tryd.prog.info? 92).map (fun i => (i.zero, i.size, i.bytes)) = some (some (.agg #[.int .i64 0, .string ⟨#[]⟩, .int .i64 0, .int .i64 0]), 4, 40) := by kernel_rfl
theorem rwordInfo : (Tryd.prog.info? 97).map (fun i => (i.zero, i.size, i.bytes)) = some (some (.agg #[.int .i64 0, .string ⟨#[]⟩, .int .i64 0, .int .i64 0]), 4, 40) := by kernel_rfl
/-- The places of a list of words stand below a bound, so there are at most as many. -/
theorem scan_len (s : ByteArray) : ∀ f i acc, i ≤ s.size → acc.length ≤ i → (scanF s f i acc).1.length ≤ s.size
  | 0, i, acc, hi, h => by simp only [scanF]; omega
  | f + 1, i, acc, hi, h => by
    unfold scanF
    by_cases hlt : i < s.size
    · rw [if_pos hlt]
      by_cases h1 : cOf s i = 32 ∨ cOf s i = 9 ∨ cOf s i = 10
      · rw [if_pos h1]; exact scan_len s f _ _ (by omega) (by omega)
      · rw [if_neg h1]
        by_cases h2 : cOf s i = 35
        · rw [if_pos h2]; exact scan_len s f _ _ (run_le _ _ (by omega)) (by have := run_ge notLf s i; omega)
        · rw [if_neg h2]
          cases hw : wordR s i with
          | err e a => simp
          | ok k t n nx =>
            have := wordR_ok hlt hw
            exact scan_len s f _ _ this.2.1 (by simp; omega)
    · rw [if_neg hlt]; simp only; omega
theorem scanR_len (s : ByteArray) : (scanR s).1.length ≤ 20000 := by
  unfold scanR
  split
  · simp
  · have := scan_len s (s.size + 1) 0 [] (by omega) (by simp); omega
/-- What Words hands back. -/
def WordsOut (E : TypeId) (R : List WV × Int × Nat) (B : Nat) (w : World) (e : Ending) (w' : World) : Prop :=
  Below B w w' ∧ ∃ v, e = .returned (.tuple #[v, .int .i64 R.2.1, .int .i64 R.2.2]) ∧ w'.ownsRow B E 4 v R.1.length (flatW R.1)
set_option maxRecDepth 100000 in
set_option maxHeartbeats 1000000 in
theorem words_any (s : ByteArray) (w : World) (hm : s.size ≤ maxLen) :
    Calls Tryd.prog 22 #[.string s] w (WordsOut 92 (scanR s) w.heap.size w) := by
  unfold maxLen at hm
  by_cases hs : 20000 < s.size
  · have HR : Hid (scanR s = ([], 2, 0)) := by unfold scanR; rw [if_pos hs]; rfl
    go_enter Tryd.func22, Tryd.ntmps22; (try simp only [List.append_eq, List.cons_append, List.nil_append])
    go_wp2_with fail
    go_ret3
    refine ⟨Below.refl _ _, .slice none 0 0, ?_, ?_⟩
    · rw [HR.out]; rfl
    · rw [HR.out]; exact World.ownsRow_nil _ _ _ _
  · obtain ⟨i0, hi0, hy0, hy1, hy2⟩ := info_parts wordInfo
    obtain ⟨R, hR⟩ : ∃ R, R = scanR s := ⟨_, rfl⟩
    have HF : Hid (scanF s (s.size + 1) 0 [] = R) := by rw [hR]; unfold scanR; rw [if_neg hs]; rfl
    have hRl : R.1.length ≤ 20000 := by rw [hR]; exact scanR_len s
    rw [← hR]
    clear hR
    have hs' : s.size ≤ 20000 := by omega
    clear hs
    go_enter Tryd.func22, Tryd.ntmps22; (try simp only [List.append_eq, List.cons_append, List.nil_append])
    go_wp2_with fail
    go_loopw [5, 6] (fun v t wr => ∃ (f k : Nat) (acc : List WV), k ≤ s.size ∧ acc.length ≤ k ∧ t = .int .i64 k ∧ wr.ownsRow w.heap.size 92 4 v acc.length (flatW acc) ∧ Below w.heap.size w wr ∧ Hid (scanF s f k acc = R) ∧ s.size - k < f) (fun _ t _ => s.size - (intOf t).toNat)
    case atStart => exact ⟨s.size + 1, 0, [], by omega, Nat.le_refl _, rfl, World.ownsRow_nil _ _ _ _, Below.refl _ _, HF, by omega⟩
    case round =>
      obtain ⟨f, k, acc, hk, hal, rfl, hown, hbel, HF', hf⟩ := hrel
      have hcb := cOf_bd s k
      obtain ⟨hcb1, hcb2⟩ := hcb
      by_cases hlt : k < s.size
      · by_cases h1 : cOf s k = 32 ∨ cOf s k = 9 ∨ cOf s k = 10
        · obtain ⟨f', HF', hf'⟩ := scan_blank HF'.out hlt hf h1
          replace HF' := Lib.hid HF'
          clear HF hf
          rcases h1 with h1 | h1 | h1
          · have b1 : (cOf s k == 32) = true := by simp [h1]
            clear h1
            go_wp2_with fail
            go_roundw
            case rel => exact ⟨f', k + 1, acc, by omega, by omega, by go_num, hown, hbel, HF', hf'⟩
            case measure => simp [intOf]; omega
          · have b1 : (cOf s k == 32) = false := by simp [h1]
            have b2 : (cOf s k == 9) = true := by simp [h1]
            clear h1
            go_wp2_with fail
            go_roundw
            case rel => exact ⟨f', k + 1, acc, by omega, by omega, by go_num, hown, hbel, HF', hf'⟩
            case measure => simp [intOf]; omega
          · have b1 : (cOf s k == 32) = false := by simp [h1]
            have b2 : (cOf s k == 9) = false := by simp [h1]
            have b3 : (cOf s k == 10) = true := by simp [h1]
            clear h1
            go_wp2_with fail
            go_roundw
            case rel => exact ⟨f', k + 1, acc, by omega, by omega, by go_num, hown, hbel, HF', hf'⟩
            case measure => simp [intOf]; omega
        · have b1 : (cOf s k == 32) = false := by simp; omega
          have b2 : (cOf s k == 9) = false := by simp; omega
          have b3 : (cOf s k == 10) = false := by simp; omega
          by_cases h2 : cOf s k = 35
          · obtain ⟨f', HF'', hf'⟩ := scan_note HF'.out hlt hf h2
            have b4 : (cOf s k == 35) = true := by simp [h2]
            have b5 : (cOf s k != 10) = true := by simp [h2]
            have hge : k + 1 ≤ run notLf s k := by rw [← run_step hlt (p := notLf) (by simp [notLf, h2])]; exact run_ge _ _ _
            have hle := run_le notLf s (i := k) (by omega)
            obtain ⟨E, hE⟩ : ∃ E, E = run notLf s k := ⟨_, rfl⟩
            rw [← hE] at hge hle hf' HF''
            have HE := Lib.hid hE
            replace HF' := Lib.hid HF''
            clear hE h2 h1 HF'' hf HF
            go_wp2_with fail
            go_loop [6] (fun t => ∃ j : Nat, k ≤ j ∧ j ≤ s.size ∧ t = .int .i64 j ∧ Hid (run notLf s j = E)) (fun t => s.size - (intOf t).toNat)
            case atStart => exact ⟨k, Nat.le_refl _, by omega, rfl, HE.out.symm⟩
            case round =>
              obtain ⟨j, hj0, hj, rfl, HJ⟩ := hrel
              have hcj := cOf_bd s j
              obtain ⟨hcj1, hcj2⟩ := hcj
              by_cases hltj : j < s.size
              · cases hp : notLf (cOf s j)
                · have hEj : j = E := by rw [← HJ.out]; exact (run_stop (fun h => by rw [hp] at h; exact absurd h.2 (by simp))).symm
                  have hbj : (cOf s j != 10) = false := by simpa [notLf] using hp
                  clear hp
                  subst hEj
                  go_wp2_with fail
                  go_roundw
                  case rel => exact ⟨f', j, acc, by omega, by omega, rfl, hown, hbel, HF', by omega⟩
                  case measure => simp [intOf]; omega
                · have hbj : (cOf s j != 10) = true := by simpa [notLf] using hp
                  have hst := Lib.hid ((run_step hltj hp).trans HJ.out)
                  clear hp
                  go_wp2_with fail
                  go_round
                  case rel => exact ⟨j + 1, by omega, by omega, by go_num, hst.out⟩
                  case measure => simp [intOf]; omega
              · have hEj : j = E := by rw [← HJ.out]; exact (run_stop (fun h => hltj h.1)).symm
                subst hEj
                go_wp2_with fail
                go_roundw
                case rel => exact ⟨f', j, acc, by omega, by omega, rfl, hown, hbel, HF', by omega⟩
                case measure => simp [intOf]; omega
          · have b4 : (cOf s k == 35) = false := by simp [h2]
            have H1 := Lib.hid h1
            have H2 := Lib.hid h2
            clear h1 h2 HF
            go_wp2_with fail
            (go_at_call 39; refine (word_any _ _ _ hs' hlt).mono ?_; rintro e w1 ⟨hb1, hc1⟩)
            have hz1 := hb1.size
            have hown1 := own_below hown hb1 (Nat.le_refl _)
            have hbel1 := hbel.trans (hb1.mono hbel.size)
            have hbz := hbel1.size
            clear hown hb1 hbel
            rcases hc1 with ⟨er, pl, hw, rfl⟩ | ⟨kk, tt, nn, nx, hw, rfl⟩
            · have hRe := scan_err HF'.out hlt hf H1.out H2.out hw
              have HRe := Lib.hid hRe
              have her : (er != 0) = true := by
                have := wordR_err hw
                simp; omega
              clear hRe hw HF' hf
              go_wp2_with fail
              go_ret3
              refine ⟨?_, .slice none 0 0, ?_, ?_⟩
              · ((with_reducible (repeat (first | exact bR _ _ | refine bS ?_ ?_ _ | refine bA ?_ ?_ _ | refine bD ?_ | refine bT ?_ (by assumption) ?_ | refine bO (by assumption) ?_ ?_))) <;> (first | omega | (simp; done) | (simp <;> omega)))
              · rw [HRe.out]; rfl
              · rw [HRe.out]; exact World.ownsRow_nil _ _ _ _
            · have hok := wordR_ok hlt hw
              obtain ⟨f', HF'', hf'⟩ := scan_word HF'.out hlt hf H1.out H2.out hw
              replace HF'' := Lib.hid HF''
              have e0 : ((0 : Int) != 0) = false := rfl
              have hts := Lib.hid hok.2.2.1
              have htz : tt.size ≤ 20000 := by omega
              obtain ⟨hx1, hx2, -⟩ := hok
              clear hw HF' hf
              go_wp2_with (at_builtin; go_must (refine wpList_append_own _ rfl _ _ 52 rfl w.heap.size 92 i0 _ 4 40 Tryd.underlying52 hi0 hy0 hy1 hy2 rfl (by decide) _ _ _ rfl ((hown1.alloc _).alloc _) ⟨w1.heap.size + 1, 0, none⟩ 1 1 [.int .i64 kk, .string tt, .int .i64 nn, .int .i64 k] rfl rfl ?c1 ?c2 ?c3 ?c4 ?c5 ?_))
              case c1 => exact cells_new _ _ _ (by simp)
              case c2 => intro u hu; simp at hu; rcases hu with rfl | rfl | rfl | rfl <;> rfl
              case c3 => simp [maxLen]; omega
              case c4 => omega
              case c5 => simp; omega
              intro v2 w2 hown2 hg2 _
              have hne : some w1.heap.size ≠ u5.ownBlock := fun e => by have := (hown1.lt _ e.symm).2; omega
              have hblk := hg2.block w1.heap.size (by simp; omega) hne
              have hc8 : w2.cell? ⟨w1.heap.size, 1, none⟩ = some (.string tt) := by rw [World.cell?_of_block hblk]; go_simp
              have hbel2 : Below w.heap.size w w2 := ((hbel1.alloc (by omega) _).alloc (by simp; omega) _).grown hg2 (by simp; omega) (own_fresh hown1)
              clear hblk hne hg2 hown1 hbel1
              go_wp2_with fail
              go_roundw
              case rel => exact ⟨f', nx, acc ++ [⟨kk, tt, nn, k⟩], by omega, by simp; omega, by first | rfl | (congr 1; have := hts.out; omega), by rw [flatW_snoc, List.length_append]; exact hown2, hbel2, HF'', by omega⟩
              case measure => simp [intOf]; have := hts.out; omega
      · have hRe := Lib.hid ((scanF_end hlt).symm.trans HF'.out)
        obtain rfl : k = s.size := by omega
        clear HF'
        go_wp2_with fail
        go_ret3
        refine ⟨hbel, u5, ?_, ?_⟩
        · rw [← hRe.out]; rfl
        · rw [← hRe.out]; exact hown
set_option maxRecDepth 100000 in
set_option maxHeartbeats 1000000 in
theorem rwords_any (s : ByteArray) (w : World) (hm : s.size ≤ maxLen) :
    Calls Tryd.prog 26 #[.string s] w (WordsOut 97 (scanR s) w.heap.size w) := by
  unfold maxLen at hm
  by_cases hs : 20000 < s.size
  · have HR : Hid (scanR s = ([], 2, 0)) := by unfold scanR; rw [if_pos hs]; rfl
    go_enter Tryd.func26, Tryd.ntmps26; (try simp only [List.append_eq, List.cons_append, List.nil_append])
    go_wp2_with fail
    go_ret3
    refine ⟨Below.refl _ _, .slice none 0 0, ?_, ?_⟩
    · rw [HR.out]; rfl
    · rw [HR.out]; exact World.ownsRow_nil _ _ _ _
  · obtain ⟨i0, hi0, hy0, hy1, hy2⟩ := info_parts rwordInfo
    obtain ⟨R, hR⟩ : ∃ R, R = scanR s := ⟨_, rfl⟩
    have HF : Hid (scanF s (s.size + 1) 0 [] = R) := by rw [hR]; unfold scanR; rw [if_neg hs]; rfl
    have hRl : R.1.length ≤ 20000 := by rw [hR]; exact scanR_len s
    rw [← hR]
    clear hR
    have hs' : s.size ≤ 20000 := by omega
    clear hs
    go_enter Tryd.func26, Tryd.ntmps26; (try simp only [List.append_eq, List.cons_append, List.nil_append])
    go_wp2_with fail
    go_loopw [5, 6] (fun v t wr => ∃ (f k : Nat) (acc : List WV), k ≤ s.size ∧ acc.length ≤ k ∧ t = .int .i64 k ∧ wr.ownsRow w.heap.size 97 4 v acc.length (flatW acc) ∧ Below w.heap.size w wr ∧ Hid (scanF s f k acc = R) ∧ s.size - k < f) (fun _ t _ => s.size - (intOf t).toNat)
    case atStart => exact ⟨s.size + 1, 0, [], by omega, Nat.le_refl _, rfl, World.ownsRow_nil _ _ _ _, Below.refl _ _, HF, by omega⟩
    case round =>
      obtain ⟨f, k, acc, hk, hal, rfl, hown, hbel, HF', hf⟩ := hrel
      have hcb := cOf_bd s k
      obtain ⟨hcb1, hcb2⟩ := hcb
      by_cases hlt : k < s.size
      · by_cases h1 : cOf s k = 32 ∨ cOf s k = 9 ∨ cOf s k = 10
        · obtain ⟨f', HF', hf'⟩ := scan_blank HF'.out hlt hf h1
          replace HF' := Lib.hid HF'
          clear HF hf
          rcases h1 with h1 | h1 | h1
          · have b1 : (cOf s k == 32) = true := by simp [h1]
            clear h1
            go_wp2_with fail
            go_roundw
            case rel => exact ⟨f', k + 1, acc, by omega, by omega, by go_num, hown, hbel, HF', hf'⟩
            case measure => simp [intOf]; omega
          · have b1 : (cOf s k == 32) = false := by simp [h1]
            have b2 : (cOf s k == 9) = true := by simp [h1]
            clear h1
            go_wp2_with fail
            go_roundw
            case rel => exact ⟨f', k + 1, acc, by omega, by omega, by go_num, hown, hbel, HF', hf'⟩
            case measure => simp [intOf]; omega
          · have b1 : (cOf s k == 32) = false := by simp [h1]
            have b2 : (cOf s k == 9) = false := by simp [h1]
            have b3 : (cOf s k == 10) = true := by simp [h1]
            clear h1
            go_wp2_with fail
            go_roundw
            case rel => exact ⟨f', k + 1, acc, by omega, by omega, by go_num, hown, hbel, HF', hf'⟩
            case measure => simp [intOf]; omega
        · have b1 : (cOf s k == 32) = false := by simp; omega
          have b2 : (cOf s k == 9) = false := by simp; omega
          have b3 : (cOf s k == 10) = false := by simp; omega
          by_cases h2 : cOf s k = 35
          · obtain ⟨f', HF'', hf'⟩ := scan_note HF'.out hlt hf h2
            have b4 : (cOf s k == 35) = true := by simp [h2]
            have b5 : (cOf s k != 10) = true := by simp [h2]
            have hge : k + 1 ≤ run notLf s k := by rw [← run_step hlt (p := notLf) (by simp [notLf, h2])]; exact run_ge _ _ _
            have hle := run_le notLf s (i := k) (by omega)
            obtain ⟨E, hE⟩ : ∃ E, E = run notLf s k := ⟨_, rfl⟩
            rw [← hE] at hge hle hf' HF''
            have HE := Lib.hid hE
            replace HF' := Lib.hid HF''
            clear hE h2 h1 HF'' hf HF
            go_wp2_with fail
            go_loop [6] (fun t => ∃ j : Nat, k ≤ j ∧ j ≤ s.size ∧ t = .int .i64 j ∧ Hid (run notLf s j = E)) (fun t => s.size - (intOf t).toNat)
            case atStart => exact ⟨k, Nat.le_refl _, by omega, rfl, HE.out.symm⟩
            case round =>
              obtain ⟨j, hj0, hj, rfl, HJ⟩ := hrel
              have hcj := cOf_bd s j
              obtain ⟨hcj1, hcj2⟩ := hcj
              by_cases hltj : j < s.size
              · cases hp : notLf (cOf s j)
                · have hEj : j = E := by rw [← HJ.out]; exact (run_stop (fun h => by rw [hp] at h; exact absurd h.2 (by simp))).symm
                  have hbj : (cOf s j != 10) = false := by simpa [notLf] using hp
                  clear hp
                  subst hEj
                  go_wp2_with fail
                  go_roundw
                  case rel => exact ⟨f', j, acc, by omega, by omega, rfl, hown, hbel, HF', by omega⟩
                  case measure => simp [intOf]; omega
                · have hbj : (cOf s j != 10) = true := by simpa [notLf] using hp
                  have hst := Lib.hid ((run_step hltj hp).trans HJ.out)
                  clear hp
                  go_wp2_with fail
                  go_round
                  case rel => exact ⟨j + 1, by omega, by omega, by go_num, hst.out⟩
                  case measure => simp [intOf]; omega
              · have hEj : j = E := by rw [← HJ.out]; exact (run_stop (fun h => hltj h.1)).symm
                subst hEj
                go_wp2_with fail
                go_roundw
                case rel => exact ⟨f', j, acc, by omega, by omega, rfl, hown, hbel, HF', by omega⟩
                case measure => simp [intOf]; omega
          · have b4 : (cOf s k == 35) = false := by simp [h2]
            have H1 := Lib.hid h1
            have H2 := Lib.hid h2
            clear h1 h2 HF
            go_wp2_with fail
            (go_at_call 42; refine (one_any _ _ _ hs' hlt).mono ?_; rintro e w1 ⟨hb1, hc1⟩)
            have hz1 := hb1.size
            have hown1 := own_below hown hb1 (Nat.le_refl _)
            have hbel1 := hbel.trans (hb1.mono hbel.size)
            have hbz := hbel1.size
            clear hown hb1 hbel
            rcases hc1 with ⟨er, pl, hw, rfl⟩ | ⟨kk, tt, nn, nx, hw, rfl⟩
            · have hRe := scan_err HF'.out hlt hf H1.out H2.out hw
              have HRe := Lib.hid hRe
              have her : (er != 0) = true := by
                have := wordR_err hw
                simp; omega
              clear hRe hw HF' hf
              go_wp2_with fail
              go_ret3
              refine ⟨?_, .slice none 0 0, ?_, ?_⟩
              · ((with_reducible (repeat (first | exact bR _ _ | refine bS ?_ ?_ _ | refine bA ?_ ?_ _ | refine bD ?_ | refine bT ?_ (by assumption) ?_ | refine bO (by assumption) ?_ ?_))) <;> (first | omega | (simp; done) | (simp <;> omega)))
              · rw [HRe.out]; rfl
              · rw [HRe.out]; exact World.ownsRow_nil _ _ _ _
            · have hok := wordR_ok hlt hw
              obtain ⟨f', HF'', hf'⟩ := scan_word HF'.out hlt hf H1.out H2.out hw
              replace HF'' := Lib.hid HF''
              have e0 : ((0 : Int) != 0) = false := rfl
              have hts := Lib.hid hok.2.2.1
              have htz : tt.size ≤ 20000 := by omega
              obtain ⟨hx1, hx2, -⟩ := hok
              clear hw HF' hf
              go_wp2_with (at_builtin; go_must (refine wpList_append_own _ rfl _ _ 62 rfl w.heap.size 97 i0 _ 4 40 Tryd.underlying62 hi0 hy0 hy1 hy2 rfl (by decide) _ _ _ rfl ((hown1.alloc _).alloc _) ⟨w1.heap.size + 1, 0, none⟩ 1 1 [.int .i64 kk, .string tt, .int .i64 nn, .int .i64 k] rfl rfl ?c1 ?c2 ?c3 ?c4 ?c5 ?_))
              case c1 => exact cells_new _ _ _ (by simp)
              case c2 => intro u hu; simp at hu; rcases hu with rfl | rfl | rfl | rfl <;> rfl
              case c3 => simp [maxLen]; omega
              case c4 => omega
              case c5 => simp; omega
              intro v2 w2 hown2 hg2 _
              have hne : some w1.heap.size ≠ u5.ownBlock := fun e => by have := (hown1.lt _ e.symm).2; omega
              have hblk := hg2.block w1.heap.size (by simp; omega) hne
              have hc8 : w2.cell? ⟨w1.heap.size, 1, none⟩ = some (.string tt) := by rw [World.cell?_of_block hblk]; go_simp
              have hbel2 : Below w.heap.size w w2 := ((hbel1.alloc (by omega) _).alloc (by simp; omega) _).grown hg2 (by simp; omega) (own_fresh hown1)
              clear hblk hne hg2 hown1 hbel1
              go_wp2_with fail
              go_roundw
              case rel => exact ⟨f', nx, acc ++ [⟨kk, tt, nn, k⟩], by omega, by simp; omega, by first | rfl | (congr 1; have := hts.out; omega), by rw [flatW_snoc, List.length_append]; exact hown2, hbel2, HF'', by omega⟩
              case measure => simp [intOf]; have := hts.out; omega
      · have hRe := Lib.hid ((scanF_end hlt).symm.trans HF'.out)
        obtain rfl : k = s.size := by omega
        clear HF'
        go_wp2_with fail
        go_ret3
        refine ⟨hbel, u5, ?_, ?_⟩
        · rw [← hRe.out]; rfl
        · rw [← hRe.out]; exact hown
end Go.Proofs.YteondblmcooklaaDoor
