/- The walk of SourceAgain. -/
import Derived.Test.YteondblmcooklaaDoorSrW
import Derived.Test.YteondblmcooklaaDoorSaC
namespace Go.Proofs.YteondblmcooklaaDoor
open Go Go.RowKit
set_option linter.unusedVariables false
theorem parse_okF {s : ByteArray} (h : (parseR s).2.1 = 0) : ∀ x ∈ (parseR s).1, okF x := by
  intro x hx
  refine ⟨(parseR_okX s).2 x hx, fun k hk n hn => ?_⟩
  obtain ⟨h1, h2, h3⟩ := parseR_all h
  have hmem : coreN n ∈ (scanR s).1.map core := by
    rw [h2]
    refine List.mem_flatMap.2 ⟨x, hx, ?_⟩
    unfold coreX
    refine List.mem_cons_of_mem _ (List.mem_append_right _ (List.mem_append_left _ (List.mem_flatMap.2 ⟨k, hk, ?_⟩)))
    unfold coreK
    exact List.mem_cons_of_mem _ (List.mem_map_of_mem hn)
  obtain ⟨y, hy, he⟩ := List.mem_map.1 hmem
  have hy2 : y.kind = 2 := by rw [← core_fst y, he]; rfl
  rw [core2 hy2] at he
  have hyn : y.num = n := by simpa [coreN] using he
  rcases scanR_chain s with ⟨m, hm, hc, _⟩ | ⟨hb, _⟩
  · rw [hm] at hy
    have hw := chain_isW hc y hy
    have := wordR_ok (by rw [app_nil]; exact hw.1) (hw.2.2.2 ⟨#[]⟩ (.inl rfl))
    omega
  · exact absurd h1 hb
set_option maxRecDepth 100000 in
set_option maxHeartbeats 8000000 in
theorem again_walk (s : ByteArray) (hs : s.size ≤ maxLen) (w : World) (ht : Tabs w) :
    Calls Tryd.prog 6 #[.string s] w fun e w' => e = .returned (.bool true) ∧ Below w.heap.size w w' := by
  have h3 := ht.three
  have HT := Lib.hid ht
  have hok := parseR_okX s
  have KP := fun W (h : Tabs W) => parse_any s W hs h
  have hbad := parseR_bad (s := s)
  have hag := again_any (s := s)
  have hof := parse_okF (s := s)
  obtain ⟨⟨L, er, pl⟩, hR⟩ : ∃ R, R = parseR s := ⟨_, rfl⟩
  rw [← hR] at hok KP hbad hag hof
  simp only at hok hbad hag hof
  obtain ⟨hl4, hokx⟩ := hok
  have HOK := Lib.hid hokx
  clear ht hR hokx
  by_cases her : er = 0
  · subst her
    have HOF := Lib.hid (hof rfl)
    by_cases hsz : 10000 < s.size
    · clear hag hbad hof
      have i1 : 10000 < (s.size : Int) := by omega
      go_enter Tryd.func6, Tryd.ntmps6; (try simp only [List.append_eq, List.cons_append, List.nil_append])
      go_wp2_with fail
      (go_at_call 8; refine (awake08_any _ HT.out).mono ?_; rintro e w1 ⟨rfl, hb1⟩)
      have hz1 := hb1.size
      go_wp2_with fail
      (go_at_call 9; refine (KP _ (HT.out.below hb1 h3)).mono ?_; rintro e w2 ⟨hb2, A2, c2, rfl, hx2⟩)
      have hz2 := hb2.size
      have hx2 := Lib.hid hx2
      go_wp2_with fail
      (go_at_call 8; refine (awake08_any _ ((HT.out.below hb1 h3).below hb2 (by omega))).mono ?_; rintro e w3 ⟨rfl, hb3⟩)
      go_wp2_with fail
      go_ret
      exact ⟨rfl, (hb1.trans (hb2.mono (by omega))).trans (hb3.mono (by omega))⟩
    · have i1 : ¬ 10000 < (s.size : Int) := by omega
      obtain ⟨T, hf1, hT, htb, hp1, hp2, hf2, htb2⟩ := hag rfl (by omega)
      have KT := fun W (h : Tabs W) => parse_any T W (by unfold maxLen; omega) h
      have hokT := parseR_okX T
      have hofT := parse_okF hp1
      have hE : eqL eqX L (parseR T).1 = true := (eqX_sXs _ _).2 hp2.symm
      have KF1 := fun (A : Option Addr) (c : Nat) (W : World) (h1 : XsAt W A L) (h : Tabs W) => by have := format_any L A c W h1 h (by omega) HOF.out (by omega); rw [hf1] at this; exact this
      have KF2 := fun (A : Option Addr) (c : Nat) (W : World) (h1 : XsAt W A (parseR T).1) (h : Tabs W) => by have := format_any (parseR T).1 A c W h1 h (by omega) hofT (by rw [htb2]; omega); rw [hf2] at this; exact this
      obtain ⟨⟨M, er, pt⟩, hR⟩ : ∃ R, R = parseR T := ⟨_, rfl⟩
      rw [← hR] at KT hokT hE KF2 hp1
      simp only at hokT hE KF2 hp1
      subst hp1
      obtain ⟨hm4, hokm⟩ := hokT
      have HOM := Lib.hid hokm
      have KKT := Lib.hid KT
      have KKF1 := Lib.hid KF1
      have KKF2 := Lib.hid KF2
      have KKP := Lib.hid KP
      clear hag hbad hof hf1 hp2 hf2 htb2 hofT hR hokm KT KF1 KF2 KP htb
      go_enter Tryd.func6, Tryd.ntmps6; (try simp only [List.append_eq, List.cons_append, List.nil_append])
      go_wp2_with fail
      (go_at_call 8; refine (awake08_any _ HT.out).mono ?_; rintro e w1 ⟨rfl, hb1⟩)
      have hz1 := hb1.size
      have ht1 := Lib.hid (HT.out.below hb1 h3)
      go_wp2_with fail
      (go_at_call 9; refine (KKP.out _ ht1.out).mono ?_; rintro e w2 ⟨hb2, A2, c2, rfl, hx2⟩)
      have hz2 := hb2.size
      have hx2 := Lib.hid hx2
      have ht2 := Lib.hid (ht1.out.below hb2 (by omega))
      go_wp2_with fail
      (go_at_call 19; refine (KKF1.out _ _ _ hx2.out.at ht2.out).mono ?_; rintro e w3 ⟨rfl, hb3⟩)
      have hz3 := hb3.size
      have ht3 := Lib.hid (ht2.out.below hb3 (by omega))
      go_wp2_with fail
      (go_at_call 9; refine (KKT.out _ ht3.out).mono ?_; rintro e w4 ⟨hb4, A4, c4, rfl, hx4⟩)
      have hz4 := hb4.size
      have hx4 := Lib.hid hx4
      have ht4 := Lib.hid (ht3.out.below hb4 (by omega))
      go_wp2_with fail
      (go_at_call 19; refine (KKF2.out _ _ _ hx4.out.at ht4.out).mono ?_; rintro e w5 ⟨rfl, hb5⟩)
      have hz5 := hb5.size
      go_wp2_with fail
      (go_at_call 11; refine (items_any L _ _ _ (((hx2.out.at.below hb3 (Nat.le_refl _)).below hb4 (Nat.le_refl _)).below hb5 (Nat.le_refl _)) (by omega) HOK.out).mono ?_; rintro e w6 ⟨hb6, A6, c6, rfl, hx6⟩)
      have hz6 := hb6.size
      have hx6 := Lib.hid hx6
      go_wp2_with fail
      (go_at_call 11; refine (items_any M _ _ _ ((hx4.out.at.below hb5 (Nat.le_refl _)).below hb6 (Nat.le_refl _)) (by omega) HOM.out).mono ?_; rintro e w7 ⟨hb7, A7, c7, rfl, hx7⟩)
      have hz7 := hb7.size
      have hx7 := Lib.hid hx7
      go_wp2_with fail
      (go_at_call 12; refine (rsame_any L M _ _ _ _ _ (hx6.out.at.below hb7 (Nat.le_refl _)) hx7.out.at (by omega) (by omega) HOK.out HOM.out).mono ?_; rintro e w8 ⟨rfl, hb8⟩; rw [hE])
      go_wp2_with fail
      go_ret
      exact ⟨rfl, ((((((hb1.trans (hb2.mono (by omega))).trans (hb3.mono (by omega))).trans (hb4.mono (by omega))).trans (hb5.mono (by omega))).trans (hb6.mono (by omega))).trans (hb7.mono (by omega))).trans (hb8.mono (by omega))⟩
  · obtain rfl := hbad her
    clear hag hbad hof
    go_enter Tryd.func6, Tryd.ntmps6; (try simp only [List.append_eq, List.cons_append, List.nil_append])
    go_wp2_with fail
    (go_at_call 8; refine (awake08_any _ HT.out).mono ?_; rintro e w1 ⟨rfl, hb1⟩)
    have hz1 := hb1.size
    go_wp2_with fail
    (go_at_call 9; refine (KP _ (HT.out.below hb1 h3)).mono ?_; rintro e w2 ⟨hb2, A2, c2, rfl, hx2⟩)
    go_wp2_with fail
    go_ret
    exact ⟨rfl, hb1.trans (hb2.mono (by omega))⟩
end Go.Proofs.YteondblmcooklaaDoor
