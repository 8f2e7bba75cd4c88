/- Contract: ref42.Row. -/
import Derived.Test.YtajcddaahmbllaaDoorConD
set_option linter.unusedVariables false
set_option linter.unusedSimpArgs false
namespace Go.Proofs.YtajcddaahmbllaaDoor
open Go.RowKit
set_option maxRecDepth 100000 in
set_option maxHeartbeats 8000000 in
theorem ref42_Row_any (s : ByteArray) (w : World) (hs : s.size ≤ 100000) :
    Calls Tryd.prog 7 #[.string s] w fun e w' => RowRes w w' (rowS (bs s)) e ∧ Below w.heap.size w w' := by
  have HSp := hide (ref7_Split_any s w (by have : (1000000 : Nat) ≤ maxLen := by decide
                                           omega))
  obtain ⟨i0, hi, hz0, hz1, hz2⟩ := info_parts Tryd.info_val
  cases hsp : splitS (bs s) with
  | error x =>
    have HX := hide (splitS_err hsp)
    have hne : ((x.2 : Int) != 0) = true := by simpa using HX.out
    have HR := hide (show rowS (bs s) = .error x.2 by unfold rowS; rw [hsp])
    rw [hsp] at HSp
    clear HX hsp
    go_enter Tryd.func7, Tryd.ntmps7
    go_wp2_with fail
    refine HSp.out.mono ?_
    rintro e w1 ⟨hres, hb1⟩
    obtain rfl : e = _ := hres
    go_wp2
    go_ret2
    exact ⟨by rw [HR.out]; rfl, hb1⟩
  | ok ts =>
    have hv := splitS_fine hsp
    have hpos := splitS_pos hsp
    have hcnt := splitS_count hsp
    have HV := hide hv
    have HR := hide (show rowS (bs s) = rowT ts by unfold rowS; rw [hsp])
    rw [hsp] at HSp
    clear hsp hv
    go_enter Tryd.func7, Tryd.ntmps7
    go_wp2_with fail
    refine HSp.out.mono ?_
    rintro e w1 ⟨hres, hb1⟩
    obtain ⟨T, tc, rfl, hownT⟩ := hres
    have hta := ToksAt_of_own hownT
    clear hownT HSp
    rcases hta with h | ⟨g, off, rfl, hg, hc⟩
    · rw [h] at hpos; exact absurd hpos (by simp)
    have HC := hide (show TokCells w1 g off ts from hc)
    clear hc
    have htl : ts.length ≤ 1000000 := by omega
    go_wp2
    go_loopw [7, 8] (fun v iv wr => ∃ (i : Nat) (acc : List Vl) (A : Option Addr) (c : Nat), iv = .int .i64 i ∧ v = .slice A acc.length c ∧ Hid (RowRel ts i acc) ∧
        wr.ownsRow w1.heap.size 23 3 (.slice A acc.length c) acc.length (vlCells acc) ∧ Below w1.heap.size w1 wr) (fun _ iv _ => ts.length - (intOf iv).toNat)
    case atStart => exact ⟨0, [], none, 0, rfl, rfl, RowRel_start hpos, own_nil _ _ _ _, Below.refl _ _⟩
    case round =>
      obtain ⟨i, acc, A, c, rfl, rfl, HRel, hown, hbel⟩ := hrel
      have hil := HRel.out.2.1
      have hacc := HRel.out.2.2.1
      have hai := HRel.out.2.2.2
      have hsz := hbel.size
      have hg2 : g < wr.heap.size := by omega
      have hcell : ∀ o, wr.cell? ⟨g, o, none⟩ = w1.cell? ⟨g, o, none⟩ := fun o => hbel.cell (p := ⟨g, o, none⟩) hg
      obtain ⟨a0, a1, a2, a3⟩ := HC.out i hil
      rw [← hcell] at a0 a1 a2 a3
      by_cases hk : ts[i].kind = 0
      · have HE := hide (RowRel_end HRel.out hil hk)
        have HE2 := hide (rowT_end HE.out)
        rw [hk] at a0
        have hi0 : decide (0 < i) = true ∨ decide (0 < i) = false := by cases decide (0 < i) <;> simp
        clear hai
        by_cases h12 : 12 < acc.length
        · clear hk hcell
          rcases hi0 with hi0 | hi0
          all_goals
            go_wp2
            go_ret2
            exact ⟨by rw [HR.out, HE2.out, if_pos h12]; rfl, below_st hbel hb1⟩
        · clear hk hcell
          rcases hi0 with hi0 | hi0
          all_goals
            go_wp2
            go_ret2
            refine ⟨?_, below_st hbel hb1⟩
            rw [HR.out, HE2.out, if_neg h12]
            exact ⟨A, c, rfl, own_lower hown hb1.size⟩
      · have hl1 := last_of HV.out hil hk
        have hkb : (ts[i].kind != 0) = true := by simpa using hk
        have hkb2 : (ts[i].kind == 0) = false := by simpa using hk
        have HLit := hide (fun (j : Nat) (hj : j < ts.length) (W : World) (hW : Below wr.heap.size wr W) =>
          ref42_lit g off tc ts HV.out htl j hj W (Nat.lt_of_lt_of_le hg2 hW.size) ((HC.out.below hg (hbel.mono (Nat.le_refl _))).below hg2 hW))
        by_cases ha : acc = []
        · have hi0 : decide (0 < i) = false := by simpa using hai.1 ha
          subst ha
          clear hai
          have HL0 := hide (fun W hW => HLit.out i hil W hW)
          cases hl : litL (ts.drop i) with
          | none =>
            have HE := hide (rowT_err (RowRel_bad0 HRel.out hil hk rfl hl))
            rw [hl] at HL0
            clear hk hcell hl
            generalize ts[i] = t at *
            go_wp2_with fail
            refine (HL0.out _ (by (repeat (first | exact Below.refl _ _ | assumption | refine Below.drew ?_ | refine below_drewN ?_ _ | refine Below.alloc ?_ (by first | omega | (simp; done) | (simp; omega)) _ | refine Below.setCell ?_ (by first | omega | (simp; done) | (simp; omega)) _)))).mono ?_
            rintro e w2 ⟨hres, hb2⟩
            obtain ⟨v, m, rfl⟩ := hres
            have hb3 := below_st hb2 (below_st hbel hb1)
            have hs3 := hb3.size
            go_wp2
            go_ret2
            exact ⟨by rw [HR.out, HE.out]; rfl, by (repeat (first | exact Below.refl _ _ | assumption | refine Below.drew ?_ | refine below_drewN ?_ _ | refine Below.alloc ?_ (by first | omega | (simp; done) | (simp; omega)) _ | refine Below.setCell ?_ (by first | omega | (simp; done) | (simp; omega)) _))⟩
          | some x =>
            obtain ⟨v, n⟩ := x
            have HStep := hide (RowRel_step0 HV.out HRel.out hil hk rfl hl)
            have hin := HStep.out.2.1
            obtain ⟨hn, _⟩ := litL_pos hl
            rw [hl] at HL0
            clear hk hcell hl
            generalize ts[i] = t at *
            go_wp2_with fail
            refine (HL0.out _ (by (repeat (first | exact Below.refl _ _ | assumption | refine Below.drew ?_ | refine below_drewN ?_ _ | refine Below.alloc ?_ (by first | omega | (simp; done) | (simp; omega)) _ | refine Below.setCell ?_ (by first | omega | (simp; done) | (simp; omega)) _)))).mono ?_
            rintro e w2 ⟨hres, hb2⟩
            obtain rfl : e = .returned (.tuple #[v.agg, .int .i64 ((i + n : Nat) : Int), .bool true]) := hres
            have own2 := own_below hown hb2
            have hsz2 := hb2.size
            have hb4 := below_st hb2 hbel
            go_wp2_with (at_builtin; refine wpList_append_own _ rfl _ _ 25 rfl w1.heap.size 23 i0 _ 3 32 Tryd.underlying25 hi hz0 hz1 hz2 rfl (by decide) _ _ _ rfl (own_below own2 (by (repeat (first | exact Below.refl _ _ | assumption | refine Below.drew ?_ | refine below_drewN ?_ _ | refine Below.alloc ?_ (by first | omega | (simp; done) | (simp; omega)) _ | refine Below.setCell ?_ (by first | omega | (simp; done) | (simp; omega)) _)))) ⟨w2.heap.size + 1, 0, none⟩ 1 1 v.cells rfl rfl (by exact cells_g3 (by first | exact heap_alloc_new _ _ | exact heap_new1 _ _ _)) (by simp [Vl.cells, Value.oneCell']) (by unfold maxLen; first | omega | (simp; omega) | (simp; done)) (by first | omega | (simp; omega) | (simp; done)) (by simp; omega) ?_; intro v' w3 hown3 hgrow _)
            have hb5 : Below w1.heap.size w1 w3 := (show Below w1.heap.size w1 _ from by (repeat (first | exact Below.refl _ _ | assumption | refine Below.drew ?_ | refine below_drewN ?_ _ | refine Below.alloc ?_ (by first | omega | (simp; done) | (simp; omega)) _ | refine Below.setCell ?_ (by first | omega | (simp; done) | (simp; omega)) _))).grown hgrow (by simp; omega) (fun k hk => (own2.lt k hk).1)
            obtain ⟨A2, c2, rfl⟩ := own_form hown3
            exact ⟨⟨i + n, ([] : List Vl) ++ [v], A2, c2, by first | rfl | go_num, by simp, HStep.out, by simpa using hown3, hb5⟩, by simp [intOf]; omega⟩
        · have hacc0 : 0 < acc.length := by
            cases acc with
            | nil => exact absurd rfl ha
            | cons => simp
          have hi0 : decide (0 < i) = true := by
            have : i ≠ 0 := fun e => ha (hai.2 e)
            simp; omega
          clear hai
          by_cases hcm : ts[i].kind = 5 ∧ ts[i].text = [44]
          case neg =>
            have HE := hide (rowT_err (RowRel_comma HRel.out hil hk ha hcm))
            by_cases h5 : ts[i].kind = 5
            · have h5b : (ts[i].kind != 5) = false := by simpa using h5
              have h44 : (ts[i].text == [44]) = false := by
                cases h : (ts[i].text == [44])
                · rfl
                · exact absurd ⟨h5, by simpa using h⟩ hcm
              clear hk hcell h5 hcm ha
              generalize ts[i] = t at *
              go_wp2
              go_ret2
              exact ⟨by rw [HR.out, HE.out]; rfl, below_st hbel hb1⟩
            · have h5b : (ts[i].kind != 5) = true := by simpa using h5
              clear hk hcell h5 hcm ha
              generalize ts[i] = t at *
              go_wp2
              go_ret2
              exact ⟨by rw [HR.out, HE.out]; rfl, below_st hbel hb1⟩
          have h5b : (ts[i].kind != 5) = false := by simpa using hcm.1
          have h44 := hcm.2
          rw [h44] at a1
          have HL0 := hide (fun W hW => HLit.out (i + 1) hl1 W hW)
          cases hl : litL (ts.drop (i + 1)) with
          | none =>
            have HE := hide (rowT_err (RowRel_bad1 HRel.out hil hk ha hcm hl))
            rw [hl] at HL0
            clear hk hcell hl hcm ha h44
            generalize ts[i] = t at *
            go_wp2_with fail
            refine (HL0.out _ (by (repeat (first | exact Below.refl _ _ | assumption | refine Below.drew ?_ | refine below_drewN ?_ _ | refine Below.alloc ?_ (by first | omega | (simp; done) | (simp; omega)) _ | refine Below.setCell ?_ (by first | omega | (simp; done) | (simp; omega)) _)))).mono ?_
            rintro e w2 ⟨hres, hb2⟩
            obtain ⟨v, m, rfl⟩ := hres
            have hb3 := below_st hb2 (below_st hbel hb1)
            have hs3 := hb3.size
            go_wp2
            go_ret2
            exact ⟨by rw [HR.out, HE.out]; rfl, by (repeat (first | exact Below.refl _ _ | assumption | refine Below.drew ?_ | refine below_drewN ?_ _ | refine Below.alloc ?_ (by first | omega | (simp; done) | (simp; omega)) _ | refine Below.setCell ?_ (by first | omega | (simp; done) | (simp; omega)) _))⟩
          | some x =>
            obtain ⟨v, n⟩ := x
            have HStep := hide (RowRel_step1 HV.out HRel.out hil hk ha hcm hl)
            have hin := HStep.out.2.1
            obtain ⟨hn, _⟩ := litL_pos hl
            rw [hl] at HL0
            clear hk hcell hl hcm ha h44
            generalize ts[i] = t at *
            go_wp2_with fail
            refine (HL0.out _ (by (repeat (first | exact Below.refl _ _ | assumption | refine Below.drew ?_ | refine below_drewN ?_ _ | refine Below.alloc ?_ (by first | omega | (simp; done) | (simp; omega)) _ | refine Below.setCell ?_ (by first | omega | (simp; done) | (simp; omega)) _)))).mono ?_
            rintro e w2 ⟨hres, hb2⟩
            obtain rfl : e = .returned (.tuple #[v.agg, .int .i64 ((i + 1 + n : Nat) : Int), .bool true]) := hres
            have own2 := own_below hown hb2
            have hsz2 := hb2.size
            have hb4 := below_st hb2 hbel
            go_wp2_with (at_builtin; refine wpList_append_own _ rfl _ _ 25 rfl w1.heap.size 23 i0 _ 3 32 Tryd.underlying25 hi hz0 hz1 hz2 rfl (by decide) _ _ _ rfl (own_below own2 (by (repeat (first | exact Below.refl _ _ | assumption | refine Below.drew ?_ | refine below_drewN ?_ _ | refine Below.alloc ?_ (by first | omega | (simp; done) | (simp; omega)) _ | refine Below.setCell ?_ (by first | omega | (simp; done) | (simp; omega)) _)))) ⟨w2.heap.size + 1, 0, none⟩ 1 1 v.cells rfl rfl (by exact cells_g3 (by first | exact heap_alloc_new _ _ | exact heap_new1 _ _ _)) (by simp [Vl.cells, Value.oneCell']) (by unfold maxLen; first | omega | (simp; omega) | (simp; done)) (by first | omega | (simp; omega) | (simp; done)) (by simp; omega) ?_; intro v' w3 hown3 hgrow _)
            have hb5 : Below w1.heap.size w1 w3 := (show Below w1.heap.size w1 _ from by (repeat (first | exact Below.refl _ _ | assumption | refine Below.drew ?_ | refine below_drewN ?_ _ | refine Below.alloc ?_ (by first | omega | (simp; done) | (simp; omega)) _ | refine Below.setCell ?_ (by first | omega | (simp; done) | (simp; omega)) _))).grown hgrow (by simp; omega) (fun k hk => (own2.lt k hk).1)
            obtain ⟨A2, c2, rfl⟩ := own_form hown3
            exact ⟨⟨i + 1 + n, acc ++ [v], A2, c2, by first | rfl | go_num, by simp, HStep.out, by simpa using hown3, hb5⟩, by simp [intOf]; omega⟩
end Go.Proofs.YtajcddaahmbllaaDoor
