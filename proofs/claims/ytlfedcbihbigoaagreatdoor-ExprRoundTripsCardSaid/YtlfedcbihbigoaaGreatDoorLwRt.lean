/- ExprRoundTrips: the law returns true (law8.ExprRoundTrips). -/
import Derived.Test.YtlfedcbihbigoaaGreatDoorKnoN
import Derived.Test.YtlfedcbihbigoaaGreatDoorRdS
import Derived.Test.YtlfedcbihbigoaaGreatDoorTotJ
set_option linter.unusedVariables false
set_option linter.unusedSimpArgs false
namespace Go.Proofs.YtlfedcbihbigoaaGreatDoor
open Go.RowKit
theorem fmtR_snd (es : List Nd) : (fmtR es).2 = validE es := by
  unfold fmtR
  split
  · rename_i h; exact h.symm
  · rfl
/-- What parsing a formatted text answers. -/
theorem fmt_parse {es : List Nd} (h : validE es = 0) : (fmtR es).1.length ≤ 38400 ∧ parS (fmtR es).1 = (es, 0, 0) := by
  have e : (fmtR es).1 = ((runF es []).getD 0 pc0).text := by unfold fmtR; rw [if_pos h]
  rw [e]
  exact ⟨fmt_len h, parS_fmt h⟩
theorem fmtR_short (es : List Nd) : (fmtR es).1.length ≤ 38400 := by
  by_cases h : validE es = 0
  · exact (fmt_parse h).1
  · rw [fmtR_bad h]; simp
set_option maxRecDepth 100000 in
set_option maxHeartbeats 4000000 in
theorem law8_ExprRoundTrips_any (A : Option Addr) (es : List Nd) (c : Nat) (s : ByteArray) (L : Option Addr) (l : List Int) (lc : Nat) (n : Int) (w : World) (hG : GlobJ w) (hE : NdsAt w A es) (hx : NamesOk es) (hs : s.size ≤ maxLen) (hI : IntsAt w L l) :
    Calls Tryz.prog 7 #[.slice A es.length c, .string s, .slice L l.length lc, .int .i64 n] w fun e w' => e = .returned (.bool true) ∧ Below w.heap.size w w' := by
  have HG := hide hG
  have HI := hide hI
  have HE := hide hE
  have HX := hide hx
  have HSz := hide hs
  have hs' : s.size ≤ 9223372036854775807 := by unfold maxLen at hs; omega
  clear hG hI hE hx hs
  by_cases h4 : es.length ≤ 400
  rotate_left
  · have hd : decide (es.length ≤ 400) = false := by simpa using h4
    go_enter Tryz.func7, Tryz.ntmps7
    go_wp2_with (go_at_call 17; refine (law8_light_any _ _ _ _).mono ?_; rintro e w' ⟨rfl, rfl⟩)
    refine (law8_known_any _ HG.out).mono ?_
    rintro e w1 ⟨rfl, hb1⟩
    go_wp2
    go_ret
    exact ⟨rfl, hb1⟩
  have hd : decide (es.length ≤ 400) = true := by simpa using h4
  by_cases h5 : 500 < s.size
  · go_enter Tryz.func7, Tryz.ntmps7
    go_wp2_with (go_at_call 17; refine (law8_light_any _ _ _ _).mono ?_; rintro e w' ⟨rfl, rfl⟩)
    refine (law8_known_any _ HG.out).mono ?_
    rintro e w1 ⟨rfl, hb1⟩
    go_wp2
    go_ret
    exact ⟨rfl, hb1⟩
  go_enter Tryz.func7, Tryz.ntmps7
  go_wp2_with (go_at_call 17; refine (law8_light_any _ _ _ _).mono ?_; rintro e w' ⟨rfl, rfl⟩)
  go_loopw [0, 9] (fun r i wr => ∃ (k : Nat) (B : Option Addr) (fs : List Nd) (m : Nat), i = .int .i64 k ∧ k ≤ 2 ∧ r = .slice B fs.length m ∧ Hid (NdsAt wr B fs) ∧ Hid (NamesOk fs) ∧ fs.length ≤ 400 ∧ Below w.heap.size w wr) (fun _ i _ => 2 - (intOf i).toNat)
  case atStart => exact ⟨0, A, es, c, rfl, by omega, rfl, HE, HX, h4, Below.refl _ _⟩
  case round =>
    obtain ⟨k, B, fs, m, rfl, hk, rfl, HN, HNm, hf4, hbel⟩ := hrel
    have hsz := hbel.size
    by_cases hlt : k < 2
    · have HF := hide (expr_Format_any B fs m wr (HG.out.below hbel) HN.out (by omega) HNm.out)
      have HV := hide (fun W (hb : Below wr.heap.size wr W) => ref8_Validate_any B fs m W (HN.out.below hb) (by omega) HNm.out)
      have HP := hide (fun W (hb : Below wr.heap.size wr W) => expr_Parse_any ⟨(fmtR fs).1.toArray⟩ W (HG.out.below (bel2 hb hbel)).glob (by have := fmtR_short fs; show (fmtR fs).1.toArray.size ≤ _; simp; unfold maxLen; omega))
      rw [fmtR_snd] at HF
      rw [show bs ⟨(fmtR fs).1.toArray⟩ = (fmtR fs).1 from rfl] at HP
      have HM := hide (fun W (hb : Below wr.heap.size wr W) => law8_made_any L l lc n W (HI.out.below (bel2 hb hbel)))
      have hts := fmtR_short fs
      by_cases hv : validE fs = 0
      · have hpf := (fmt_parse hv).2
        rw [hpf] at HP
        rw [hv] at HF HV
        clear hpf hv
        generalize (fmtR fs).1 = t at *
        go_wp2_with fail
        refine HF.out.mono ?_
        rintro e w1 ⟨rfl, hb1⟩
        go_wp2_with fail
        refine (HV.out _ hb1).mono ?_
        rintro e w2 ⟨rfl, hb2⟩
        have hb12 := bel2 hb2 hb1
        go_wp2_with fail
        refine (HP.out _ hb12).mono ?_
        rintro e w3 ⟨⟨B3, n3, rfl, ho⟩, hb3⟩
        have HO3 := hide (NdsAt_of_own ho)
        clear ho
        simp only at HO3 ⊢
        have hb13 := bel2 hb3 hb12
        go_wp2_with fail
        refine (ref8_Same_eq _ _ _ _ _ _ HO3.out (HN.out.below hb13) (by omega)).mono ?_
        rintro e w4 ⟨rfl, hb4⟩
        have hb14 := bel2 hb4 hb13
        go_wp2_with fail
        refine (HM.out _ hb14).mono ?_
        rintro e w5 ⟨⟨gs, g, A5, c5, rfl, own⟩, hb5⟩
        have hb15 := bel2 (bel2 hb5 hb14) hbel
        have HG5 := hide (NdsAt_of_own own)
        have HN5 := hide g.names
        have hl5 := g.short (Nat.le_refl 4)
        clear own g
        go_wp2
        exact ⟨⟨k + 1, A5, gs, c5, by go_num, by omega, rfl, HG5, HN5, by omega, hb15⟩, by simp [intOf]; omega⟩
      · have hvb : (validE fs == 0) = false := beq_eq_false_iff_ne.2 hv
        generalize hr : parS (fmtR fs).1 = r at *
        clear hr
        obtain ⟨ps, pa, px⟩ := r
        generalize (fmtR fs).1 = t at *
        generalize validE fs = v at *
        clear hv
        go_wp2_with fail
        refine HF.out.mono ?_
        rintro e w1 ⟨rfl, hb1⟩
        go_wp2_with fail
        refine (HV.out _ hb1).mono ?_
        rintro e w2 ⟨rfl, hb2⟩
        have hb12 := bel2 hb2 hb1
        go_wp2_with fail
        refine (HP.out _ hb12).mono ?_
        rintro e w3 ⟨⟨B3, n3, rfl, ho⟩, hb3⟩
        clear ho
        have hb13 := bel2 hb3 hb12
        go_wp2_with fail
        refine (HM.out _ hb13).mono ?_
        rintro e w5 ⟨⟨gs, g, A5, c5, rfl, own⟩, hb5⟩
        have hb15 := bel2 (bel2 hb5 hb13) hbel
        have HG5 := hide (NdsAt_of_own own)
        have HN5 := hide g.names
        have hl5 := g.short (Nat.le_refl 4)
        clear own g
        go_wp2
        exact ⟨⟨k + 1, A5, gs, c5, by go_num, by omega, rfl, HG5, HN5, by omega, hb15⟩, by simp [intOf]; omega⟩
    · obtain rfl : k = 2 := by omega
      have HP := hide (expr_Parse_any s wr (HG.out.below hbel).glob HSz.out)
      have hpv := fun h => (parS_valid (l := bs s) h).1
      have HPV := hide hpv
      clear hpv HN HNm
      generalize parS (bs s) = r at *
      obtain ⟨xs, a, x⟩ := r
      simp only at HPV
      by_cases hx0 : x = 0
      rotate_left
      · have hxb : (x != 0) = true := by simpa using hx0
        clear hx0
        go_wp2_with fail
        refine HP.out.mono ?_
        rintro e w1 ⟨⟨B1, n1, rfl, ho⟩, hb1⟩
        clear ho
        have hb2 := bel2 hb1 hbel
        go_wp2_with fail
        refine (law8_known_any _ (HG.out.below hb2)).mono ?_
        rintro e w3 ⟨rfl, hb3⟩
        go_wp2
        go_ret
        exact ⟨rfl, bel2 hb3 hb2⟩
      subst hx0
      have hv := HPV.out rfl
      have hl := valid_le hv
      obtain ⟨h256, y, hrun, _⟩ := valid_ok hv
      have HNx := hide (show NamesOk xs from fun n hn => by have := ok_name (runE_oks xs _ _ hrun n hn); unfold maxLen; omega)
      obtain ⟨hts, hpf⟩ := fmt_parse hv
      have HF := hide (fun B m W (hg : GlobJ W) (hN : NdsAt W B xs) => expr_Format_any B xs m W hg hN (by omega) HNx.out)
      have hsnd := fmtR_snd xs
      rw [hv] at hsnd
      rw [hsnd] at HF
      have HP2 := hide (fun W (hg : Glob W) => expr_Parse_any ⟨(fmtR xs).1.toArray⟩ W hg (by show (fmtR xs).1.toArray.size ≤ _; simp; unfold maxLen; omega))
      rw [show bs ⟨(fmtR xs).1.toArray⟩ = (fmtR xs).1 from rfl, hpf] at HP2
      clear hsnd hpf hv hrun HPV
      generalize (fmtR xs).1 = t at *
      go_wp2_with fail
      refine HP.out.mono ?_
      rintro e w1 ⟨⟨B1, n1, rfl, ho⟩, hb1⟩
      have HO1 := hide (NdsAt_of_own ho)
      clear ho
      simp only at HO1 ⊢
      have hb1w := bel2 hb1 hbel
      go_wp2_with fail
      refine (HF.out _ _ _ (HG.out.below hb1w) HO1.out).mono ?_
      rintro e w2 ⟨rfl, hb2⟩
      have hb2w := bel2 hb2 hb1w
      go_wp2_with fail
      refine (HP2.out _ (HG.out.below hb2w).glob).mono ?_
      rintro e w3 ⟨⟨B3, n3, rfl, ho⟩, hb3⟩
      have HO3 := hide (NdsAt_of_own ho)
      clear ho
      simp only at HO3 ⊢
      have hb3w := bel2 hb3 hb2w
      go_wp2_with fail
      refine (ref8_Same_eq _ _ _ _ _ _ (HO1.out.below (bel2 hb3 hb2)) HO3.out (by omega)).mono ?_
      rintro e w4 ⟨rfl, hb4⟩
      have hb4w := bel2 hb4 hb3w
      go_wp2_with fail
      refine (law8_known_any _ (HG.out.below hb4w)).mono ?_
      rintro e w5 ⟨rfl, hb5⟩
      go_wp2
      go_ret
      exact ⟨rfl, bel2 hb5 hb4w⟩
end Go.Proofs.YtlfedcbihbigoaaGreatDoor
