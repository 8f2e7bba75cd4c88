/- Contract, told: ref15.Step. -/
import Derived.Test.YtmbeeefkpgfgmaaGreatDoorPq30
import Derived.Test.YtmbeeefkpgfgmaaGreatDoorPq20
set_option linter.unusedVariables false
set_option linter.unusedSimpArgs false
namespace Go.Proofs.YtmbeeefkpgfgmaaGreatDoor
open Go.RowKit
theorem step_zero {s : Stp} (h : stepS s = 0) : 0 ≤ s.op ∧ s.op ≤ 12 ∧ opS s = 0 := by
  unfold stepS at h
  split at h
  · simp at h
  · rename_i hn
    exact ⟨by omega, by omega, h⟩
theorem items_len {its : List It} {m : Nat} {a b c d : Bool} {f : It → Int} (h : itemsS its m a b c d f = 0) : its.length ≤ 12 := by
  unfold itemsS at h
  split at h
  · simp at h
  · omega
theorem then_zero {a b : Int} (h : thenE a b = 0) : a = 0 ∧ b = 0 := by
  unfold thenE at h
  split at h
  · rename_i h0; exact ⟨h0, h⟩
  · rename_i h0; exact absurd h h0
theorem join_zero {s : Stp} (h : joinS s = 0) : s.names.length = s.others.length ∧ s.items.length ≤ 12 := by
  unfold joinS at h
  have h1 := (then_zero (then_zero (then_zero h).2).2).2
  have h2 := then_zero h1
  refine ⟨?_, items_len h2.2⟩
  have := h2.1
  split at this
  · assumption
  · simp at this
theorem group_zero {s : Stp} (h : groupS s = 0) : s.names.length ≤ 12 ∧ s.items.length ≤ 12 := by
  unfold groupS at h
  have h1 := then_zero h
  refine ⟨(list_len h1.1).2, ?_⟩
  have h2 := h1.2
  split at h2
  · simp at h2
  · exact items_len h2
theorem window_zero {s : Stp} (h : windowS s = 0) : s.items.length ≤ 12 := by
  unfold windowS at h
  exact items_len (then_zero (then_zero h).2).2

set_option maxRecDepth 100000 in
set_option maxHeartbeats 6000000 in
theorem ref15_Step_any (C : Option Addr) (cs : List Col) (cc : Nat) (s : Stp) (a : Adr) (R : Option Addr) (right : List Col) (rc : Nat) (Z : Option Addr) (zc : Nat) (w : World) (hF : Firm (fun W => ColsAt W C cs) w) (hg : ColG cs) (hR : ColsAt w R right) (hrl : right.length ≤ 1000) (hA : s.At w a) (ho : s.ok) (hop : s.op ≠ 0) (hZ : ZnsAt w Z zonesL) :
    Calls Tryz.prog 85 #[.slice C cs.length cc, s.agg a, .slice R right.length rc, .slice Z 3 zc] w fun e w' => ColR (stepC cs s right) w' e ∧ Below w.heap.size w w' := by
  have HF := hide hF
  have HC := hide hF.now
  have HRt := hide hR
  have HZ := hide hZ
  have HA := hide hA
  have HO := hide ho
  have HG := hide hg
  have hcl := hg.le
  have HX := hide (show stepC cs s right = if stepS s ≠ 0 then ([], stepS s) else if s.op ≠ 0 ∧ colsV cs ≠ 0 then ([], colsV cs) else if s.src ≠ [] ∧ colsV right ≠ 0 then ([], colsV right) else opC cs s right from rfl)
  have HVS := hide (fun W (hb : Below w.heap.size w W) => show Calls Tryz.prog 16 #[.agg #[.int .i64 s.op, str s.src, .slice a.nA s.names.length a.nC, .slice a.oA s.others.length a.oC, .slice a.iA s.items.length a.iC, .slice a.cA s.cond.length a.cC]] W (fun e w' => e = .returned (.int .i64 (stepS s)) ∧ Below W.heap.size W w') from ref11_ValidateStep_any s a W (HA.out.below hb) HO.out)
  have HV1 := hide (fun W (hb : Below w.heap.size w W) => ref5_Validate_s C cs cc W (HC.out.below hb) (by omega))
  have HV2 := hide (fun W (hb : Below w.heap.size w W) => ref5_Validate_s R right rc W (HRt.out.below hb) (by omega))
  have HVZ := hide (fun W (hb : Below w.heap.size w W) => show Calls Tryz.prog 147 #[.slice Z 3 zc] W (fun e w' => e = .returned (.int .i64 0) ∧ Below W.heap.size W w') from ref15_Valid_any Z zonesL zc W (HZ.out.below hb) (by decide) (by decide))
  have HS0 := hide (fun h => step_zero (s := s) h)
  clear hF hR hZ hA ho hg
  generalize stepC cs s right = r at *
  obtain ⟨op, src, names, others, its, cond⟩ := s
  obtain ⟨nA, nC, oA, oC, iA, iC, cA, cC⟩ := a
  simp only at HX HVS hop
  show Calls Tryz.prog 85 #[_, .agg #[.int .i64 op, str src, .slice nA names.length nC, .slice oA others.length oC, .slice iA its.length iC, .slice cA cond.length cC], _, _] w _
  have hbox : Below (w.heap.size + 1) (w.alloc (.cells #[.int .i64 op, str src, .slice nA names.length nC, .slice oA others.length oC, .slice iA its.length iC, .slice cA cond.length cC] 27)) (w.alloc (.cells #[.int .i64 op, str src, .slice nA names.length nC, .slice oA others.length oC, .slice iA its.length iC, .slice cA cond.length cC] 27)) := Below.refl _ _
  by_cases hs : stepS ⟨op, src, names, others, its, cond⟩ = 0
  rotate_left
  · have hb : (stepS ⟨op, src, names, others, its, cond⟩ != 0) = true := by simpa using hs
    have HE := hide (HX.out.trans (if_pos hs))
    clear HX hs HS0
    generalize stepS _ = e1 at *
    go_enter Tryz.func85, Tryz.ntmps85
    go_wp2_with (go_at_call 16; refine (HVS.out _ (box_below hbox)).mono ?_; rintro e w1 ⟨rfl, hb1⟩; have hbx := below_go hbox (by simp) hb1; clear hbox)
    refine bodyPost_ret (v := .tuple #[.slice none 0 0, .int .i64 e1]) (by simp [results, Tryz.results85, go_sem]) rfl ⟨⟨none, 0, by rw [HE.out]; rfl, by rw [HE.out]; exact Firm.nil _ _⟩, box_below hbx⟩
  obtain ⟨h0, h12, hop0⟩ := HS0.out hs
  simp only at h0 h12
  have HX2 := hide (HX.out.trans (if_neg (by simp [hs])))
  rw [hs] at HVS
  clear HX HS0 hs
  have hopb : (op != 0) = true := by simpa using hop
  have BX := hide hbox
  by_cases hv : colsV cs = 0
  rotate_left
  · have hb : (colsV cs != 0) = true := by simpa using hv
    have HE := hide (HX2.out.trans (if_pos ⟨hop, hv⟩))
    clear HX2 hv
    generalize colsV cs = e1 at *
    go_enter Tryz.func85, Tryz.ntmps85
    go_wp2_with (first
      | (go_at_call 16; refine (HVS.out _ (box_below hbox)).mono ?_; rintro e w1 ⟨rfl, hb1⟩; have hbx := below_go hbox (by simp) hb1; obtain ⟨m0, m1, m2, m3, m4, m5, hlw⟩ := box6 hbx; have hm1 := box_below hbx; clear hbox)
      | (go_at_call 146; refine (HV1.out _ hm1).mono ?_; rintro e w' ⟨rfl, rfl⟩; clear hm1))
    refine bodyPost_ret (v := .tuple #[.slice none 0 0, .int .i64 e1]) (by simp [results, Tryz.results85, go_sem]) rfl ⟨⟨none, 0, by rw [HE.out]; rfl, by rw [HE.out]; exact Firm.nil _ _⟩, box_below hbx⟩
  have HX3 := hide (HX2.out.trans (if_neg (fun h => h.2 hv)))
  rw [hv] at HV1
  clear HX2 hv
  have hopk : op = 1 ∨ op = 2 ∨ op = 3 ∨ op = 4 ∨ op = 5 ∨ op = 6 ∨ op = 7 ∨ op = 8 ∨ op = 9 ∨ op = 10 ∨ op = 11 ∨ op = 12 := by omega
  by_cases hsrc : src = []

  · subst hsrc
    have HX4 := hide (HX3.out.trans (if_neg (fun h => h.1 rfl)))
    clear HX3
    rcases hopk with rfl | rfl | rfl | rfl | rfl | rfl | rfl | rfl | rfl | rfl | rfl | rfl
    · have HR := hide (show r = if condX cs cond ≠ 0 then ([], condX cs cond) else (cs, 0) from HX4.out.trans (by unfold opC; simp))
      have HOp := hide (fun W (hb : Below w.heap.size w W) => ref15_condition_any cA cond cC C cs cc Z zc W (HA.out.cond.below hb) HO.out.cond HO.out.condN (HC.out.below hb) (by omega) (HZ.out.below hb))
      clear HX4 hop0
      generalize condX cs cond = q at *
      by_cases hq : q = 0
      · subst hq
        have HR2 := hide (HR.out.trans (if_neg (by simp)))
        go_enter Tryz.func85, Tryz.ntmps85
        go_wp2_with (first
          | (go_at_call 16; refine (HVS.out _ (box_below hbox)).mono ?_; rintro e w1 ⟨rfl, hb1⟩; have hbx := below_go hbox (by simp) hb1; obtain ⟨m0, m1, m2, m3, m4, m5, hlw⟩ := box6 hbx; have hm1 := box_below hbx; clear hbox)
          | (go_at_call 146; refine (HV1.out _ hm1).mono ?_; rintro e w' ⟨rfl, rfl⟩; clear hm1)
          | (go_at_call 147; refine (HVZ.out _ (box_below hbx)).mono ?_; rintro e w2 ⟨rfl, hb2⟩; have hby := below_go hbx (by simp) hb2; obtain ⟨n0, n1, n2, n3, n4, n5, hlw2⟩ := box6 hby; clear hbx)
          | (go_at_call 148; refine (HOp.out _ (box_below hby)).mono ?_; rintro e w3 ⟨rfl, hb3⟩))
        refine bodyPost_ret (v := .tuple #[.slice C cs.length cc, .int .i64 0]) (by simp [results, Tryz.results85, go_sem]) rfl ⟨⟨C, cc, by rw [HR2.out], by rw [HR2.out]; exact HF.out.below (bel2 hb3 (box_below hby))⟩, bel2 hb3 (box_below hby)⟩
      · have hqb : (q != 0) = true := by simpa using hq
        have HR2 := hide (HR.out.trans (if_pos hq))
        go_enter Tryz.func85, Tryz.ntmps85
        go_wp2_with (first
          | (go_at_call 16; refine (HVS.out _ (box_below hbox)).mono ?_; rintro e w1 ⟨rfl, hb1⟩; have hbx := below_go hbox (by simp) hb1; obtain ⟨m0, m1, m2, m3, m4, m5, hlw⟩ := box6 hbx; have hm1 := box_below hbx; clear hbox)
          | (go_at_call 146; refine (HV1.out _ hm1).mono ?_; rintro e w' ⟨rfl, rfl⟩; clear hm1)
          | (go_at_call 147; refine (HVZ.out _ (box_below hbx)).mono ?_; rintro e w2 ⟨rfl, hb2⟩; have hby := below_go hbx (by simp) hb2; obtain ⟨n0, n1, n2, n3, n4, n5, hlw2⟩ := box6 hby; clear hbx)
          | (go_at_call 148; refine (HOp.out _ (box_below hby)).mono ?_; rintro e w3 ⟨rfl, hb3⟩))
        refine bodyPost_ret (v := .tuple #[.slice none 0 0, .int .i64 q]) (by simp [results, Tryz.results85, go_sem]) rfl ⟨⟨none, 0, by rw [HR2.out]; rfl, by rw [HR2.out]; exact Firm.nil _ _⟩, bel2 hb3 (box_below hby)⟩
    · have HR := hide (show r = derS cs ⟨2, [], names, others, its, cond⟩ from HX4.out.trans (by unfold opC; simp))
      have hl : its.length ≤ 12 := items_len (by have h9 := hop0; unfold opS at h9; simpa using h9)
      have HOp := hide (fun W (hb : Below w.heap.size w W) => ref15_derive_any C cs cc ⟨2, [], names, others, its, cond⟩ _ Z zc W (HF.out.below hb) HG.out (HA.out.below hb) HO.out hl (HZ.out.below hb))
      clear HX4 hop0
      generalize derS cs ⟨2, [], names, others, its, cond⟩ = q at *
      go_enter Tryz.func85, Tryz.ntmps85
      go_wp2_with (first
        | (go_at_call 16; refine (HVS.out _ (box_below hbox)).mono ?_; rintro e w1 ⟨rfl, hb1⟩; have hbx := below_go hbox (by simp) hb1; obtain ⟨m0, m1, m2, m3, m4, m5, hlw⟩ := box6 hbx; have hm1 := box_below hbx; clear hbox)
        | (go_at_call 146; refine (HV1.out _ hm1).mono ?_; rintro e w' ⟨rfl, rfl⟩; clear hm1)
        | (go_at_call 147; refine (HVZ.out _ (box_below hbx)).mono ?_; rintro e w2 ⟨rfl, hb2⟩; have hby := below_go hbx (by simp) hb2; obtain ⟨n0, n1, n2, n3, n4, n5, hlw2⟩ := box6 hby; clear hbx)
        | (go_at_call 149; refine (HOp.out _ (box_below hby)).mono ?_; rintro e w3 ⟨⟨A3, c3, rfl, hf3⟩, hb3⟩; have HF3 := hide hf3; clear hf3))
      refine bodyPost_ret (v := .tuple #[.slice A3 q.1.length c3, .int .i64 q.2]) (by simp [results, Tryz.results85, go_sem]) rfl ⟨⟨A3, c3, by rw [HR.out], by rw [HR.out]; exact HF3.out⟩, bel2 hb3 (box_below hby)⟩
    · have HR := hide (show r = if indX cs names ≠ 0 then ([], indX cs names) else (selS cs (names.map (idxS cs)), 0) from HX4.out.trans (by unfold opC; simp))
      have hnl : names.length ≤ 12 := (list_len (m := 1) (by have h9 := hop0; unfold opS at h9; simpa using h9)).2
      have HOp := hide (fun W (hb : Below w.heap.size w W) => ref5_Indices_s C cs cc nA names nC W (HC.out.below hb) (by omega) (HA.out.names.below hb) HO.out.names HA.out.cn)
      unfold IndIs at HOp
      clear HX4 hop0
      by_cases hq : indX cs names = 0
      · have HR2 := hide (HR.out.trans (if_neg (by simp [hq])))
        have hml : (names.map (idxS cs)).length = names.length := by simp
        have HSe := hide (fun (A1 : Option Addr) (c1 : Nat) W (hb : Below w.heap.size w W) (hI : IntsAt W A1 (names.map (idxS cs))) => by
          have := ref5_Select_any C cs cc A1 (names.map (idxS cs)) c1 W (HC.out.below hb) (by omega) hI (by omega) (fun i hi => by
            have hi2 : i < names.length := by simpa using hi
            have e : (names.map (idxS cs)).getD i 0 = idxS cs (names.getD i []) := by simp [List.getD_eq_getElem?_getD, List.getElem?_map, hi2]
            rw [e]
            exact ⟨ind_ok hq i hi2, idxS_lt _ _⟩)
          rw [hml] at this
          exact this)
        have HSL := hide (show (selS cs (names.map (idxS cs))).length = names.length from by simp [selS])
        rw [hq, indS_ok hq, hml] at HOp
        clear hq hml
        generalize selS cs (names.map (idxS cs)) = bs at *
        go_enter Tryz.func85, Tryz.ntmps85
        go_wp2_with (first
          | (go_at_call 16; refine (HVS.out _ (box_below hbox)).mono ?_; rintro e w1 ⟨rfl, hb1⟩; have hbx := below_go hbox (by simp) hb1; obtain ⟨m0, m1, m2, m3, m4, m5, hlw⟩ := box6 hbx; have hm1 := box_below hbx; clear hbox)
          | (go_at_call 146; refine (HV1.out _ hm1).mono ?_; rintro e w' ⟨rfl, rfl⟩; clear hm1)
          | (go_at_call 147; refine (HVZ.out _ (box_below hbx)).mono ?_; rintro e w2 ⟨rfl, hb2⟩; have hby := below_go hbx (by simp) hb2; obtain ⟨n0, n1, n2, n3, n4, n5, hlw2⟩ := box6 hby; clear hbx)
          | (go_at_call 150; refine (HOp.out _ (box_below hby)).mono ?_; rintro e w3 ⟨⟨A3, c3, rfl, hI3⟩, hb3⟩; have hbz := below_go hby (by simp) hb3; have HJ := hide hI3; clear hI3)
          | (go_at_call 151; refine (HSe.out A3 c3 _ (box_below hbz) HJ.out).mono ?_; rintro e w4 ⟨⟨A4, c4, rfl, hown⟩, hb4⟩; have HO4 := hide hown; clear hown))
        have HFm := hide (by
          have h8 := HO4.out
          rw [← HSL.out] at h8
          exact Firm.cols h8)
        refine bodyPost_ret (v := .tuple #[.slice A4 names.length c4, .int .i64 0]) (by simp [results, Tryz.results85, go_sem]) rfl ⟨⟨A4, c4, by rw [HR2.out]; simp [HSL.out], by rw [HR2.out]; exact HFm.out⟩, bel2 hb4 (box_below hbz)⟩
      · have hqb : (indX cs names != 0) = true := by simpa using hq
        have HR2 := hide (HR.out.trans (if_pos hq))
        clear HR hq
        generalize indX cs names = q at *
        generalize indS cs names = l1 at *
        go_enter Tryz.func85, Tryz.ntmps85
        go_wp2_with (first
          | (go_at_call 16; refine (HVS.out _ (box_below hbox)).mono ?_; rintro e w1 ⟨rfl, hb1⟩; have hbx := below_go hbox (by simp) hb1; obtain ⟨m0, m1, m2, m3, m4, m5, hlw⟩ := box6 hbx; have hm1 := box_below hbx; clear hbox)
          | (go_at_call 146; refine (HV1.out _ hm1).mono ?_; rintro e w' ⟨rfl, rfl⟩; clear hm1)
          | (go_at_call 147; refine (HVZ.out _ (box_below hbx)).mono ?_; rintro e w2 ⟨rfl, hb2⟩; have hby := below_go hbx (by simp) hb2; obtain ⟨n0, n1, n2, n3, n4, n5, hlw2⟩ := box6 hby; clear hbx)
          | (go_at_call 150; refine (HOp.out _ (box_below hby)).mono ?_; rintro e w3 ⟨⟨A3, c3, rfl, hI3⟩, hb3⟩; have hbz := below_go hby (by simp) hb3; have HJ := hide hI3; clear hI3))
        refine bodyPost_ret (v := .tuple #[.slice none 0 0, .int .i64 q]) (by simp [results, Tryz.results85, go_sem]) rfl ⟨⟨none, 0, by rw [HR2.out]; rfl, by rw [HR2.out]; exact Firm.nil _ _⟩, box_below hbz⟩
    · have HR := hide (show r = addS5 cs ⟨4, [], names, others, its, cond⟩ right from HX4.out.trans (by unfold opC; simp))
      obtain ⟨hno, hl⟩ := join_zero (s := ⟨4, [], names, others, its, cond⟩) (by have h9 := hop0; unfold opS at h9; simpa using h9)
      have HN := hide hno
      clear hno
      have HOp := hide (fun W (hb : Below w.heap.size w W) => ref15_added_any C cs cc ⟨4, [], names, others, its, cond⟩ _ R right rc W (HF.out.below hb) HG.out (HRt.out.below hb) hrl (HA.out.below hb) HO.out HN.out hl)
      clear HX4 hop0
      generalize addS5 cs ⟨4, [], names, others, its, cond⟩ right = q at *
      go_enter Tryz.func85, Tryz.ntmps85
      go_wp2_with (first
        | (go_at_call 16; refine (HVS.out _ (box_below hbox)).mono ?_; rintro e w1 ⟨rfl, hb1⟩; have hbx := below_go hbox (by simp) hb1; obtain ⟨m0, m1, m2, m3, m4, m5, hlw⟩ := box6 hbx; have hm1 := box_below hbx; clear hbox)
        | (go_at_call 146; refine (HV1.out _ hm1).mono ?_; rintro e w' ⟨rfl, rfl⟩; clear hm1)
        | (go_at_call 147; refine (HVZ.out _ (box_below hbx)).mono ?_; rintro e w2 ⟨rfl, hb2⟩; have hby := below_go hbx (by simp) hb2; obtain ⟨n0, n1, n2, n3, n4, n5, hlw2⟩ := box6 hby; clear hbx)
        | (go_at_call 152; refine (HOp.out _ (box_below hby)).mono ?_; rintro e w3 ⟨⟨A3, c3, rfl, hf3⟩, hb3⟩; have HF3 := hide hf3; clear hf3))
      refine bodyPost_ret (v := .tuple #[.slice A3 q.1.length c3, .int .i64 q.2]) (by simp [results, Tryz.results85, go_sem]) rfl ⟨⟨A3, c3, by rw [HR.out], by rw [HR.out]; exact HF3.out⟩, bel2 hb3 (box_below hby)⟩
    · have HR := hide (show r = addS5 cs ⟨5, [], names, others, its, cond⟩ right from HX4.out.trans (by unfold opC; simp))
      obtain ⟨hno, hl⟩ := join_zero (s := ⟨5, [], names, others, its, cond⟩) (by have h9 := hop0; unfold opS at h9; simpa using h9)
      have HN := hide hno
      clear hno
      have HOp := hide (fun W (hb : Below w.heap.size w W) => ref15_added_any C cs cc ⟨5, [], names, others, its, cond⟩ _ R right rc W (HF.out.below hb) HG.out (HRt.out.below hb) hrl (HA.out.below hb) HO.out HN.out hl)
      clear HX4 hop0
      generalize addS5 cs ⟨5, [], names, others, its, cond⟩ right = q at *
      go_enter Tryz.func85, Tryz.ntmps85
      go_wp2_with (first
        | (go_at_call 16; refine (HVS.out _ (box_below hbox)).mono ?_; rintro e w1 ⟨rfl, hb1⟩; have hbx := below_go hbox (by simp) hb1; obtain ⟨m0, m1, m2, m3, m4, m5, hlw⟩ := box6 hbx; have hm1 := box_below hbx; clear hbox)
        | (go_at_call 146; refine (HV1.out _ hm1).mono ?_; rintro e w' ⟨rfl, rfl⟩; clear hm1)
        | (go_at_call 147; refine (HVZ.out _ (box_below hbx)).mono ?_; rintro e w2 ⟨rfl, hb2⟩; have hby := below_go hbx (by simp) hb2; obtain ⟨n0, n1, n2, n3, n4, n5, hlw2⟩ := box6 hby; clear hbx)
        | (go_at_call 152; refine (HOp.out _ (box_below hby)).mono ?_; rintro e w3 ⟨⟨A3, c3, rfl, hf3⟩, hb3⟩; have HF3 := hide hf3; clear hf3))
      refine bodyPost_ret (v := .tuple #[.slice A3 q.1.length c3, .int .i64 q.2]) (by simp [results, Tryz.results85, go_sem]) rfl ⟨⟨A3, c3, by rw [HR.out], by rw [HR.out]; exact HF3.out⟩, bel2 hb3 (box_below hby)⟩
    · have HR := hide (show r = if joinX cs ⟨6, [], names, others, its, cond⟩ right ≠ 0 then ([], joinX cs ⟨6, [], names, others, its, cond⟩ right) else (cs, 0) from HX4.out.trans (by unfold opC; simp))
      obtain ⟨hno, hl⟩ := join_zero (s := ⟨6, [], names, others, its, cond⟩) (by have h9 := hop0; unfold opS at h9; simpa using h9)
      have HN := hide hno
      clear hno
      have HOp := hide (fun W (hb : Below w.heap.size w W) => ref15_join_any C cs cc ⟨6, [], names, others, its, cond⟩ _ R right rc W (HC.out.below hb) (by omega) (HRt.out.below hb) hrl (HA.out.below hb) HO.out HN.out)
      clear HX4 hop0
      generalize joinX cs ⟨6, [], names, others, its, cond⟩ right = q at *
      by_cases hq : q = 0
      · subst hq
        have HR2 := hide (HR.out.trans (if_neg (by simp)))
        go_enter Tryz.func85, Tryz.ntmps85
        go_wp2_with (first
          | (go_at_call 16; refine (HVS.out _ (box_below hbox)).mono ?_; rintro e w1 ⟨rfl, hb1⟩; have hbx := below_go hbox (by simp) hb1; obtain ⟨m0, m1, m2, m3, m4, m5, hlw⟩ := box6 hbx; have hm1 := box_below hbx; clear hbox)
          | (go_at_call 146; refine (HV1.out _ hm1).mono ?_; rintro e w' ⟨rfl, rfl⟩; clear hm1)
          | (go_at_call 147; refine (HVZ.out _ (box_below hbx)).mono ?_; rintro e w2 ⟨rfl, hb2⟩; have hby := below_go hbx (by simp) hb2; obtain ⟨n0, n1, n2, n3, n4, n5, hlw2⟩ := box6 hby; clear hbx)
          | (go_at_call 153; refine (HOp.out _ (box_below hby)).mono ?_; rintro e w3 ⟨rfl, hb3⟩))
        refine bodyPost_ret (v := .tuple #[.slice C cs.length cc, .int .i64 0]) (by simp [results, Tryz.results85, go_sem]) rfl ⟨⟨C, cc, by rw [HR2.out], by rw [HR2.out]; exact HF.out.below (bel2 hb3 (box_below hby))⟩, bel2 hb3 (box_below hby)⟩
      · have hqb : (q != 0) = true := by simpa using hq
        have HR2 := hide (HR.out.trans (if_pos hq))
        go_enter Tryz.func85, Tryz.ntmps85
        go_wp2_with (first
          | (go_at_call 16; refine (HVS.out _ (box_below hbox)).mono ?_; rintro e w1 ⟨rfl, hb1⟩; have hbx := below_go hbox (by simp) hb1; obtain ⟨m0, m1, m2, m3, m4, m5, hlw⟩ := box6 hbx; have hm1 := box_below hbx; clear hbox)
          | (go_at_call 146; refine (HV1.out _ hm1).mono ?_; rintro e w' ⟨rfl, rfl⟩; clear hm1)
          | (go_at_call 147; refine (HVZ.out _ (box_below hbx)).mono ?_; rintro e w2 ⟨rfl, hb2⟩; have hby := below_go hbx (by simp) hb2; obtain ⟨n0, n1, n2, n3, n4, n5, hlw2⟩ := box6 hby; clear hbx)
          | (go_at_call 153; refine (HOp.out _ (box_below hby)).mono ?_; rintro e w3 ⟨rfl, hb3⟩))
        refine bodyPost_ret (v := .tuple #[.slice none 0 0, .int .i64 q]) (by simp [results, Tryz.results85, go_sem]) rfl ⟨⟨none, 0, by rw [HR2.out]; rfl, by rw [HR2.out]; exact Firm.nil _ _⟩, bel2 hb3 (box_below hby)⟩
    · have HR := hide (show r = if joinX cs ⟨7, [], names, others, its, cond⟩ right ≠ 0 then ([], joinX cs ⟨7, [], names, others, its, cond⟩ right) else (cs, 0) from HX4.out.trans (by unfold opC; simp))
      obtain ⟨hno, hl⟩ := join_zero (s := ⟨7, [], names, others, its, cond⟩) (by have h9 := hop0; unfold opS at h9; simpa using h9)
      have HN := hide hno
      clear hno
      have HOp := hide (fun W (hb : Below w.heap.size w W) => ref15_join_any C cs cc ⟨7, [], names, others, its, cond⟩ _ R right rc W (HC.out.below hb) (by omega) (HRt.out.below hb) hrl (HA.out.below hb) HO.out HN.out)
      clear HX4 hop0
      generalize joinX cs ⟨7, [], names, others, its, cond⟩ right = q at *
      by_cases hq : q = 0
      · subst hq
        have HR2 := hide (HR.out.trans (if_neg (by simp)))
        go_enter Tryz.func85, Tryz.ntmps85
        go_wp2_with (first
          | (go_at_call 16; refine (HVS.out _ (box_below hbox)).mono ?_; rintro e w1 ⟨rfl, hb1⟩; have hbx := below_go hbox (by simp) hb1; obtain ⟨m0, m1, m2, m3, m4, m5, hlw⟩ := box6 hbx; have hm1 := box_below hbx; clear hbox)
          | (go_at_call 146; refine (HV1.out _ hm1).mono ?_; rintro e w' ⟨rfl, rfl⟩; clear hm1)
          | (go_at_call 147; refine (HVZ.out _ (box_below hbx)).mono ?_; rintro e w2 ⟨rfl, hb2⟩; have hby := below_go hbx (by simp) hb2; obtain ⟨n0, n1, n2, n3, n4, n5, hlw2⟩ := box6 hby; clear hbx)
          | (go_at_call 153; refine (HOp.out _ (box_below hby)).mono ?_; rintro e w3 ⟨rfl, hb3⟩))
        refine bodyPost_ret (v := .tuple #[.slice C cs.length cc, .int .i64 0]) (by simp [results, Tryz.results85, go_sem]) rfl ⟨⟨C, cc, by rw [HR2.out], by rw [HR2.out]; exact HF.out.below (bel2 hb3 (box_below hby))⟩, bel2 hb3 (box_below hby)⟩
      · have hqb : (q != 0) = true := by simpa using hq
        have HR2 := hide (HR.out.trans (if_pos hq))
        go_enter Tryz.func85, Tryz.ntmps85
        go_wp2_with (first
          | (go_at_call 16; refine (HVS.out _ (box_below hbox)).mono ?_; rintro e w1 ⟨rfl, hb1⟩; have hbx := below_go hbox (by simp) hb1; obtain ⟨m0, m1, m2, m3, m4, m5, hlw⟩ := box6 hbx; have hm1 := box_below hbx; clear hbox)
          | (go_at_call 146; refine (HV1.out _ hm1).mono ?_; rintro e w' ⟨rfl, rfl⟩; clear hm1)
          | (go_at_call 147; refine (HVZ.out _ (box_below hbx)).mono ?_; rintro e w2 ⟨rfl, hb2⟩; have hby := below_go hbx (by simp) hb2; obtain ⟨n0, n1, n2, n3, n4, n5, hlw2⟩ := box6 hby; clear hbx)
          | (go_at_call 153; refine (HOp.out _ (box_below hby)).mono ?_; rintro e w3 ⟨rfl, hb3⟩))
        refine bodyPost_ret (v := .tuple #[.slice none 0 0, .int .i64 q]) (by simp [results, Tryz.results85, go_sem]) rfl ⟨⟨none, 0, by rw [HR2.out]; rfl, by rw [HR2.out]; exact Firm.nil _ _⟩, bel2 hb3 (box_below hby)⟩
    · have HR := hide (show r = unionS cs ⟨8, [], names, others, its, cond⟩ right from HX4.out.trans (by unfold opC; simp))
      have HOp := hide (fun W (hb : Below w.heap.size w W) => ref15_same_any C cs cc ⟨8, [], names, others, its, cond⟩ ⟨nA, nC, oA, oC, iA, iC, cA, cC⟩ R right rc W (HF.out.below hb) HG.out (HRt.out.below hb) hrl)
      clear HX4 hop0
      generalize unionS cs ⟨8, [], names, others, its, cond⟩ right = q at *
      go_enter Tryz.func85, Tryz.ntmps85
      go_wp2_with (first
        | (go_at_call 16; refine (HVS.out _ (box_below hbox)).mono ?_; rintro e w1 ⟨rfl, hb1⟩; have hbx := below_go hbox (by simp) hb1; obtain ⟨m0, m1, m2, m3, m4, m5, hlw⟩ := box6 hbx; have hm1 := box_below hbx; clear hbox)
        | (go_at_call 146; refine (HV1.out _ hm1).mono ?_; rintro e w' ⟨rfl, rfl⟩; clear hm1)
        | (go_at_call 147; refine (HVZ.out _ (box_below hbx)).mono ?_; rintro e w2 ⟨rfl, hb2⟩; have hby := below_go hbx (by simp) hb2; obtain ⟨n0, n1, n2, n3, n4, n5, hlw2⟩ := box6 hby; clear hbx)
        | (go_at_call 154; refine (HOp.out _ (box_below hby)).mono ?_; rintro e w3 ⟨⟨A3, c3, rfl, hf3⟩, hb3⟩; have HF3 := hide hf3; clear hf3))
      refine bodyPost_ret (v := .tuple #[.slice A3 q.1.length c3, .int .i64 q.2]) (by simp [results, Tryz.results85, go_sem]) rfl ⟨⟨A3, c3, by rw [HR.out], by rw [HR.out]; exact HF3.out⟩, bel2 hb3 (box_below hby)⟩
    · have HR := hide (show r = unionS cs ⟨9, [], names, others, its, cond⟩ right from HX4.out.trans (by unfold opC; simp))
      have HOp := hide (fun W (hb : Below w.heap.size w W) => ref15_same_any C cs cc ⟨9, [], names, others, its, cond⟩ ⟨nA, nC, oA, oC, iA, iC, cA, cC⟩ R right rc W (HF.out.below hb) HG.out (HRt.out.below hb) hrl)
      clear HX4 hop0
      generalize unionS cs ⟨9, [], names, others, its, cond⟩ right = q at *
      go_enter Tryz.func85, Tryz.ntmps85
      go_wp2_with (first
        | (go_at_call 16; refine (HVS.out _ (box_below hbox)).mono ?_; rintro e w1 ⟨rfl, hb1⟩; have hbx := below_go hbox (by simp) hb1; obtain ⟨m0, m1, m2, m3, m4, m5, hlw⟩ := box6 hbx; have hm1 := box_below hbx; clear hbox)
        | (go_at_call 146; refine (HV1.out _ hm1).mono ?_; rintro e w' ⟨rfl, rfl⟩; clear hm1)
        | (go_at_call 147; refine (HVZ.out _ (box_below hbx)).mono ?_; rintro e w2 ⟨rfl, hb2⟩; have hby := below_go hbx (by simp) hb2; obtain ⟨n0, n1, n2, n3, n4, n5, hlw2⟩ := box6 hby; clear hbx)
        | (go_at_call 154; refine (HOp.out _ (box_below hby)).mono ?_; rintro e w3 ⟨⟨A3, c3, rfl, hf3⟩, hb3⟩; have HF3 := hide hf3; clear hf3))
      refine bodyPost_ret (v := .tuple #[.slice A3 q.1.length c3, .int .i64 q.2]) (by simp [results, Tryz.results85, go_sem]) rfl ⟨⟨A3, c3, by rw [HR.out], by rw [HR.out]; exact HF3.out⟩, bel2 hb3 (box_below hby)⟩
    · have HR := hide (show r = (cs, 0) from HX4.out.trans (by unfold opC; simp))
      clear HX4 hop0
      go_enter Tryz.func85, Tryz.ntmps85
      go_wp2_with (first
        | (go_at_call 16; refine (HVS.out _ (box_below hbox)).mono ?_; rintro e w1 ⟨rfl, hb1⟩; have hbx := below_go hbox (by simp) hb1; obtain ⟨m0, m1, m2, m3, m4, m5, hlw⟩ := box6 hbx; have hm1 := box_below hbx; clear hbox)
        | (go_at_call 146; refine (HV1.out _ hm1).mono ?_; rintro e w' ⟨rfl, rfl⟩; clear hm1)
        | (go_at_call 147; refine (HVZ.out _ (box_below hbx)).mono ?_; rintro e w2 ⟨rfl, hb2⟩; have hby := below_go hbx (by simp) hb2; obtain ⟨n0, n1, n2, n3, n4, n5, hlw2⟩ := box6 hby; clear hbx))
      refine bodyPost_ret (v := .tuple #[.slice C cs.length cc, .int .i64 0]) (by simp [results, Tryz.results85, go_sem]) rfl ⟨⟨C, cc, by rw [HR.out], by rw [HR.out]; exact HF.out.below (box_below hby)⟩, box_below hby⟩
    · have HR := hide (show r = grpS cs ⟨11, [], names, others, its, cond⟩ from HX4.out.trans (by unfold opC; simp))
      have hl := group_zero (s := ⟨11, [], names, others, its, cond⟩) (by have h9 := hop0; unfold opS at h9; simpa using h9)
      have HOp := hide (fun W (hb : Below w.heap.size w W) => ref15_group_any C cs cc ⟨11, [], names, others, its, cond⟩ _ W (HF.out.below hb) HG.out (HA.out.below hb) HO.out hl.2 hl.1)
      clear HX4 hop0
      generalize grpS cs ⟨11, [], names, others, its, cond⟩ = q at *
      go_enter Tryz.func85, Tryz.ntmps85
      go_wp2_with (first
        | (go_at_call 16; refine (HVS.out _ (box_below hbox)).mono ?_; rintro e w1 ⟨rfl, hb1⟩; have hbx := below_go hbox (by simp) hb1; obtain ⟨m0, m1, m2, m3, m4, m5, hlw⟩ := box6 hbx; have hm1 := box_below hbx; clear hbox)
        | (go_at_call 146; refine (HV1.out _ hm1).mono ?_; rintro e w' ⟨rfl, rfl⟩; clear hm1)
        | (go_at_call 147; refine (HVZ.out _ (box_below hbx)).mono ?_; rintro e w2 ⟨rfl, hb2⟩; have hby := below_go hbx (by simp) hb2; obtain ⟨n0, n1, n2, n3, n4, n5, hlw2⟩ := box6 hby; clear hbx)
        | (go_at_call 155; refine (HOp.out _ (box_below hby)).mono ?_; rintro e w3 ⟨⟨A3, c3, rfl, hf3⟩, hb3⟩; have HF3 := hide hf3; clear hf3))
      refine bodyPost_ret (v := .tuple #[.slice A3 q.1.length c3, .int .i64 q.2]) (by simp [results, Tryz.results85, go_sem]) rfl ⟨⟨A3, c3, by rw [HR.out], by rw [HR.out]; exact HF3.out⟩, bel2 hb3 (box_below hby)⟩
    · have HR := hide (show r = wndS cs ⟨12, [], names, others, its, cond⟩ from HX4.out.trans (by unfold opC; simp))
      have hl := window_zero (s := ⟨12, [], names, others, its, cond⟩) (by have h9 := hop0; unfold opS at h9; simpa using h9)
      have HOp := hide (fun W (hb : Below w.heap.size w W) => ref15_window_any C cs cc ⟨12, [], names, others, its, cond⟩ _ W (HF.out.below hb) HG.out (HA.out.below hb) HO.out hl)
      clear HX4 hop0
      generalize wndS cs ⟨12, [], names, others, its, cond⟩ = q at *
      go_enter Tryz.func85, Tryz.ntmps85
      go_wp2_with (first
        | (go_at_call 16; refine (HVS.out _ (box_below hbox)).mono ?_; rintro e w1 ⟨rfl, hb1⟩; have hbx := below_go hbox (by simp) hb1; obtain ⟨m0, m1, m2, m3, m4, m5, hlw⟩ := box6 hbx; have hm1 := box_below hbx; clear hbox)
        | (go_at_call 146; refine (HV1.out _ hm1).mono ?_; rintro e w' ⟨rfl, rfl⟩; clear hm1)
        | (go_at_call 147; refine (HVZ.out _ (box_below hbx)).mono ?_; rintro e w2 ⟨rfl, hb2⟩; have hby := below_go hbx (by simp) hb2; obtain ⟨n0, n1, n2, n3, n4, n5, hlw2⟩ := box6 hby; clear hbx)
        | (go_at_call 156; refine (HOp.out _ (box_below hby)).mono ?_; rintro e w3 ⟨⟨A3, c3, rfl, hf3⟩, hb3⟩; have HF3 := hide hf3; clear hf3))
      refine bodyPost_ret (v := .tuple #[.slice A3 q.1.length c3, .int .i64 q.2]) (by simp [results, Tryz.results85, go_sem]) rfl ⟨⟨A3, c3, by rw [HR.out], by rw [HR.out]; exact HF3.out⟩, bel2 hb3 (box_below hby)⟩
  have hemp : src.isEmpty = false := by cases src <;> simp_all
  have hsb : (src != []) = true := by simpa using hsrc
  by_cases hrv : colsV right = 0
  rotate_left
  · have hb : (colsV right != 0) = true := by simpa using hrv
    have HE := hide (HX3.out.trans (if_pos ⟨hsrc, hrv⟩))
    clear HX3 hrv hsrc hopk
    generalize colsV right = e1 at *
    go_enter Tryz.func85, Tryz.ntmps85
    go_wp2_with (first
      | (go_at_call 16; refine (HVS.out _ (box_below hbox)).mono ?_; rintro e w1 ⟨rfl, hb1⟩; have hbx := below_go hbox (by simp) hb1; obtain ⟨m0, m1, m2, m3, m4, m5, hlw⟩ := box6 hbx; have hm1 := box_below hbx; clear hbox)
      | (go_at_call 146; refine (HV1.out _ hm1).mono ?_; rintro e w' ⟨rfl, rfl⟩; clear hm1)
      | (go_at_call 146; refine (HV2.out _ (box_below hbx)).mono ?_; rintro e w' ⟨rfl, rfl⟩))
    refine bodyPost_ret (v := .tuple #[.slice none 0 0, .int .i64 e1]) (by simp [results, Tryz.results85, go_sem]) rfl ⟨⟨none, 0, by rw [HE.out]; rfl, by rw [HE.out]; exact Firm.nil _ _⟩, box_below hbx⟩
  have HX4 := hide (HX3.out.trans (if_neg (fun h => h.2 hrv)))
  rw [hrv] at HV2
  clear HX3 hrv hsrc
  rcases hopk with rfl | rfl | rfl | rfl | rfl | rfl | rfl | rfl | rfl | rfl | rfl | rfl
  · have HR := hide (show r = if condX cs cond ≠ 0 then ([], condX cs cond) else (cs, 0) from HX4.out.trans (by unfold opC; simp))
    have HOp := hide (fun W (hb : Below w.heap.size w W) => ref15_condition_any cA cond cC C cs cc Z zc W (HA.out.cond.below hb) HO.out.cond HO.out.condN (HC.out.below hb) (by omega) (HZ.out.below hb))
    clear HX4 hop0
    generalize condX cs cond = q at *
    by_cases hq : q = 0
    · subst hq
      have HR2 := hide (HR.out.trans (if_neg (by simp)))
      go_enter Tryz.func85, Tryz.ntmps85
      go_wp2_with (first
        | (go_at_call 16; refine (HVS.out _ (box_below hbox)).mono ?_; rintro e w1 ⟨rfl, hb1⟩; have hbx := below_go hbox (by simp) hb1; obtain ⟨m0, m1, m2, m3, m4, m5, hlw⟩ := box6 hbx; have hm1 := box_below hbx; clear hbox)
        | (go_at_call 146; refine (HV1.out _ hm1).mono ?_; rintro e w' ⟨rfl, rfl⟩; clear hm1)
        | (go_at_call 146; refine (HV2.out _ (box_below hbx)).mono ?_; rintro e w' ⟨rfl, rfl⟩)
        | (go_at_call 147; refine (HVZ.out _ (box_below hbx)).mono ?_; rintro e w2 ⟨rfl, hb2⟩; have hby := below_go hbx (by simp) hb2; obtain ⟨n0, n1, n2, n3, n4, n5, hlw2⟩ := box6 hby; clear hbx)
        | (go_at_call 148; refine (HOp.out _ (box_below hby)).mono ?_; rintro e w3 ⟨rfl, hb3⟩))
      refine bodyPost_ret (v := .tuple #[.slice C cs.length cc, .int .i64 0]) (by simp [results, Tryz.results85, go_sem]) rfl ⟨⟨C, cc, by rw [HR2.out], by rw [HR2.out]; exact HF.out.below (bel2 hb3 (box_below hby))⟩, bel2 hb3 (box_below hby)⟩
    · have hqb : (q != 0) = true := by simpa using hq
      have HR2 := hide (HR.out.trans (if_pos hq))
      go_enter Tryz.func85, Tryz.ntmps85
      go_wp2_with (first
        | (go_at_call 16; refine (HVS.out _ (box_below hbox)).mono ?_; rintro e w1 ⟨rfl, hb1⟩; have hbx := below_go hbox (by simp) hb1; obtain ⟨m0, m1, m2, m3, m4, m5, hlw⟩ := box6 hbx; have hm1 := box_below hbx; clear hbox)
        | (go_at_call 146; refine (HV1.out _ hm1).mono ?_; rintro e w' ⟨rfl, rfl⟩; clear hm1)
        | (go_at_call 146; refine (HV2.out _ (box_below hbx)).mono ?_; rintro e w' ⟨rfl, rfl⟩)
        | (go_at_call 147; refine (HVZ.out _ (box_below hbx)).mono ?_; rintro e w2 ⟨rfl, hb2⟩; have hby := below_go hbx (by simp) hb2; obtain ⟨n0, n1, n2, n3, n4, n5, hlw2⟩ := box6 hby; clear hbx)
        | (go_at_call 148; refine (HOp.out _ (box_below hby)).mono ?_; rintro e w3 ⟨rfl, hb3⟩))
      refine bodyPost_ret (v := .tuple #[.slice none 0 0, .int .i64 q]) (by simp [results, Tryz.results85, go_sem]) rfl ⟨⟨none, 0, by rw [HR2.out]; rfl, by rw [HR2.out]; exact Firm.nil _ _⟩, bel2 hb3 (box_below hby)⟩
  · have HR := hide (show r = derS cs ⟨2, src, names, others, its, cond⟩ from HX4.out.trans (by unfold opC; simp))
    have hl : its.length ≤ 12 := items_len (by have h9 := hop0; unfold opS at h9; simpa using h9)
    have HOp := hide (fun W (hb : Below w.heap.size w W) => ref15_derive_any C cs cc ⟨2, src, names, others, its, cond⟩ _ Z zc W (HF.out.below hb) HG.out (HA.out.below hb) HO.out hl (HZ.out.below hb))
    clear HX4 hop0
    generalize derS cs ⟨2, src, names, others, its, cond⟩ = q at *
    go_enter Tryz.func85, Tryz.ntmps85
    go_wp2_with (first
      | (go_at_call 16; refine (HVS.out _ (box_below hbox)).mono ?_; rintro e w1 ⟨rfl, hb1⟩; have hbx := below_go hbox (by simp) hb1; obtain ⟨m0, m1, m2, m3, m4, m5, hlw⟩ := box6 hbx; have hm1 := box_below hbx; clear hbox)
      | (go_at_call 146; refine (HV1.out _ hm1).mono ?_; rintro e w' ⟨rfl, rfl⟩; clear hm1)
      | (go_at_call 146; refine (HV2.out _ (box_below hbx)).mono ?_; rintro e w' ⟨rfl, rfl⟩)
      | (go_at_call 147; refine (HVZ.out _ (box_below hbx)).mono ?_; rintro e w2 ⟨rfl, hb2⟩; have hby := below_go hbx (by simp) hb2; obtain ⟨n0, n1, n2, n3, n4, n5, hlw2⟩ := box6 hby; clear hbx)
      | (go_at_call 149; refine (HOp.out _ (box_below hby)).mono ?_; rintro e w3 ⟨⟨A3, c3, rfl, hf3⟩, hb3⟩; have HF3 := hide hf3; clear hf3))
    refine bodyPost_ret (v := .tuple #[.slice A3 q.1.length c3, .int .i64 q.2]) (by simp [results, Tryz.results85, go_sem]) rfl ⟨⟨A3, c3, by rw [HR.out], by rw [HR.out]; exact HF3.out⟩, bel2 hb3 (box_below hby)⟩
  · have HR := hide (show r = if indX cs names ≠ 0 then ([], indX cs names) else (selS cs (names.map (idxS cs)), 0) from HX4.out.trans (by unfold opC; simp))
    have hnl : names.length ≤ 12 := (list_len (m := 1) (by have h9 := hop0; unfold opS at h9; simpa using h9)).2
    have HOp := hide (fun W (hb : Below w.heap.size w W) => ref5_Indices_s C cs cc nA names nC W (HC.out.below hb) (by omega) (HA.out.names.below hb) HO.out.names HA.out.cn)
    unfold IndIs at HOp
    clear HX4 hop0
    by_cases hq : indX cs names = 0
    · have HR2 := hide (HR.out.trans (if_neg (by simp [hq])))
      have hml : (names.map (idxS cs)).length = names.length := by simp
      have HSe := hide (fun (A1 : Option Addr) (c1 : Nat) W (hb : Below w.heap.size w W) (hI : IntsAt W A1 (names.map (idxS cs))) => by
        have := ref5_Select_any C cs cc A1 (names.map (idxS cs)) c1 W (HC.out.below hb) (by omega) hI (by omega) (fun i hi => by
          have hi2 : i < names.length := by simpa using hi
          have e : (names.map (idxS cs)).getD i 0 = idxS cs (names.getD i []) := by simp [List.getD_eq_getElem?_getD, List.getElem?_map, hi2]
          rw [e]
          exact ⟨ind_ok hq i hi2, idxS_lt _ _⟩)
        rw [hml] at this
        exact this)
      have HSL := hide (show (selS cs (names.map (idxS cs))).length = names.length from by simp [selS])
      rw [hq, indS_ok hq, hml] at HOp
      clear hq hml
      generalize selS cs (names.map (idxS cs)) = bs at *
      go_enter Tryz.func85, Tryz.ntmps85
      go_wp2_with (first
        | (go_at_call 16; refine (HVS.out _ (box_below hbox)).mono ?_; rintro e w1 ⟨rfl, hb1⟩; have hbx := below_go hbox (by simp) hb1; obtain ⟨m0, m1, m2, m3, m4, m5, hlw⟩ := box6 hbx; have hm1 := box_below hbx; clear hbox)
        | (go_at_call 146; refine (HV1.out _ hm1).mono ?_; rintro e w' ⟨rfl, rfl⟩; clear hm1)
        | (go_at_call 146; refine (HV2.out _ (box_below hbx)).mono ?_; rintro e w' ⟨rfl, rfl⟩)
        | (go_at_call 147; refine (HVZ.out _ (box_below hbx)).mono ?_; rintro e w2 ⟨rfl, hb2⟩; have hby := below_go hbx (by simp) hb2; obtain ⟨n0, n1, n2, n3, n4, n5, hlw2⟩ := box6 hby; clear hbx)
        | (go_at_call 150; refine (HOp.out _ (box_below hby)).mono ?_; rintro e w3 ⟨⟨A3, c3, rfl, hI3⟩, hb3⟩; have hbz := below_go hby (by simp) hb3; have HJ := hide hI3; clear hI3)
        | (go_at_call 151; refine (HSe.out A3 c3 _ (box_below hbz) HJ.out).mono ?_; rintro e w4 ⟨⟨A4, c4, rfl, hown⟩, hb4⟩; have HO4 := hide hown; clear hown))
      have HFm := hide (by
        have h8 := HO4.out
        rw [← HSL.out] at h8
        exact Firm.cols h8)
      refine bodyPost_ret (v := .tuple #[.slice A4 names.length c4, .int .i64 0]) (by simp [results, Tryz.results85, go_sem]) rfl ⟨⟨A4, c4, by rw [HR2.out]; simp [HSL.out], by rw [HR2.out]; exact HFm.out⟩, bel2 hb4 (box_below hbz)⟩
    · have hqb : (indX cs names != 0) = true := by simpa using hq
      have HR2 := hide (HR.out.trans (if_pos hq))
      clear HR hq
      generalize indX cs names = q at *
      generalize indS cs names = l1 at *
      go_enter Tryz.func85, Tryz.ntmps85
      go_wp2_with (first
        | (go_at_call 16; refine (HVS.out _ (box_below hbox)).mono ?_; rintro e w1 ⟨rfl, hb1⟩; have hbx := below_go hbox (by simp) hb1; obtain ⟨m0, m1, m2, m3, m4, m5, hlw⟩ := box6 hbx; have hm1 := box_below hbx; clear hbox)
        | (go_at_call 146; refine (HV1.out _ hm1).mono ?_; rintro e w' ⟨rfl, rfl⟩; clear hm1)
        | (go_at_call 146; refine (HV2.out _ (box_below hbx)).mono ?_; rintro e w' ⟨rfl, rfl⟩)
        | (go_at_call 147; refine (HVZ.out _ (box_below hbx)).mono ?_; rintro e w2 ⟨rfl, hb2⟩; have hby := below_go hbx (by simp) hb2; obtain ⟨n0, n1, n2, n3, n4, n5, hlw2⟩ := box6 hby; clear hbx)
        | (go_at_call 150; refine (HOp.out _ (box_below hby)).mono ?_; rintro e w3 ⟨⟨A3, c3, rfl, hI3⟩, hb3⟩; have hbz := below_go hby (by simp) hb3; have HJ := hide hI3; clear hI3))
      refine bodyPost_ret (v := .tuple #[.slice none 0 0, .int .i64 q]) (by simp [results, Tryz.results85, go_sem]) rfl ⟨⟨none, 0, by rw [HR2.out]; rfl, by rw [HR2.out]; exact Firm.nil _ _⟩, box_below hbz⟩
  · have HR := hide (show r = addS5 cs ⟨4, src, names, others, its, cond⟩ right from HX4.out.trans (by unfold opC; simp))
    obtain ⟨hno, hl⟩ := join_zero (s := ⟨4, src, names, others, its, cond⟩) (by have h9 := hop0; unfold opS at h9; simpa using h9)
    have HN := hide hno
    clear hno
    have HOp := hide (fun W (hb : Below w.heap.size w W) => ref15_added_any C cs cc ⟨4, src, names, others, its, cond⟩ _ R right rc W (HF.out.below hb) HG.out (HRt.out.below hb) hrl (HA.out.below hb) HO.out HN.out hl)
    clear HX4 hop0
    generalize addS5 cs ⟨4, src, names, others, its, cond⟩ right = q at *
    go_enter Tryz.func85, Tryz.ntmps85
    go_wp2_with (first
      | (go_at_call 16; refine (HVS.out _ (box_below hbox)).mono ?_; rintro e w1 ⟨rfl, hb1⟩; have hbx := below_go hbox (by simp) hb1; obtain ⟨m0, m1, m2, m3, m4, m5, hlw⟩ := box6 hbx; have hm1 := box_below hbx; clear hbox)
      | (go_at_call 146; refine (HV1.out _ hm1).mono ?_; rintro e w' ⟨rfl, rfl⟩; clear hm1)
      | (go_at_call 146; refine (HV2.out _ (box_below hbx)).mono ?_; rintro e w' ⟨rfl, rfl⟩)
      | (go_at_call 147; refine (HVZ.out _ (box_below hbx)).mono ?_; rintro e w2 ⟨rfl, hb2⟩; have hby := below_go hbx (by simp) hb2; obtain ⟨n0, n1, n2, n3, n4, n5, hlw2⟩ := box6 hby; clear hbx)
      | (go_at_call 152; refine (HOp.out _ (box_below hby)).mono ?_; rintro e w3 ⟨⟨A3, c3, rfl, hf3⟩, hb3⟩; have HF3 := hide hf3; clear hf3))
    refine bodyPost_ret (v := .tuple #[.slice A3 q.1.length c3, .int .i64 q.2]) (by simp [results, Tryz.results85, go_sem]) rfl ⟨⟨A3, c3, by rw [HR.out], by rw [HR.out]; exact HF3.out⟩, bel2 hb3 (box_below hby)⟩
  · have HR := hide (show r = addS5 cs ⟨5, src, names, others, its, cond⟩ right from HX4.out.trans (by unfold opC; simp))
    obtain ⟨hno, hl⟩ := join_zero (s := ⟨5, src, names, others, its, cond⟩) (by have h9 := hop0; unfold opS at h9; simpa using h9)
    have HN := hide hno
    clear hno
    have HOp := hide (fun W (hb : Below w.heap.size w W) => ref15_added_any C cs cc ⟨5, src, names, others, its, cond⟩ _ R right rc W (HF.out.below hb) HG.out (HRt.out.below hb) hrl (HA.out.below hb) HO.out HN.out hl)
    clear HX4 hop0
    generalize addS5 cs ⟨5, src, names, others, its, cond⟩ right = q at *
    go_enter Tryz.func85, Tryz.ntmps85
    go_wp2_with (first
      | (go_at_call 16; refine (HVS.out _ (box_below hbox)).mono ?_; rintro e w1 ⟨rfl, hb1⟩; have hbx := below_go hbox (by simp) hb1; obtain ⟨m0, m1, m2, m3, m4, m5, hlw⟩ := box6 hbx; have hm1 := box_below hbx; clear hbox)
      | (go_at_call 146; refine (HV1.out _ hm1).mono ?_; rintro e w' ⟨rfl, rfl⟩; clear hm1)
      | (go_at_call 146; refine (HV2.out _ (box_below hbx)).mono ?_; rintro e w' ⟨rfl, rfl⟩)
      | (go_at_call 147; refine (HVZ.out _ (box_below hbx)).mono ?_; rintro e w2 ⟨rfl, hb2⟩; have hby := below_go hbx (by simp) hb2; obtain ⟨n0, n1, n2, n3, n4, n5, hlw2⟩ := box6 hby; clear hbx)
      | (go_at_call 152; refine (HOp.out _ (box_below hby)).mono ?_; rintro e w3 ⟨⟨A3, c3, rfl, hf3⟩, hb3⟩; have HF3 := hide hf3; clear hf3))
    refine bodyPost_ret (v := .tuple #[.slice A3 q.1.length c3, .int .i64 q.2]) (by simp [results, Tryz.results85, go_sem]) rfl ⟨⟨A3, c3, by rw [HR.out], by rw [HR.out]; exact HF3.out⟩, bel2 hb3 (box_below hby)⟩
  · have HR := hide (show r = if joinX cs ⟨6, src, names, others, its, cond⟩ right ≠ 0 then ([], joinX cs ⟨6, src, names, others, its, cond⟩ right) else (cs, 0) from HX4.out.trans (by unfold opC; simp))
    obtain ⟨hno, hl⟩ := join_zero (s := ⟨6, src, names, others, its, cond⟩) (by have h9 := hop0; unfold opS at h9; simpa using h9)
    have HN := hide hno
    clear hno
    have HOp := hide (fun W (hb : Below w.heap.size w W) => ref15_join_any C cs cc ⟨6, src, names, others, its, cond⟩ _ R right rc W (HC.out.below hb) (by omega) (HRt.out.below hb) hrl (HA.out.below hb) HO.out HN.out)
    clear HX4 hop0
    generalize joinX cs ⟨6, src, names, others, its, cond⟩ right = q at *
    by_cases hq : q = 0
    · subst hq
      have HR2 := hide (HR.out.trans (if_neg (by simp)))
      go_enter Tryz.func85, Tryz.ntmps85
      go_wp2_with (first
        | (go_at_call 16; refine (HVS.out _ (box_below hbox)).mono ?_; rintro e w1 ⟨rfl, hb1⟩; have hbx := below_go hbox (by simp) hb1; obtain ⟨m0, m1, m2, m3, m4, m5, hlw⟩ := box6 hbx; have hm1 := box_below hbx; clear hbox)
        | (go_at_call 146; refine (HV1.out _ hm1).mono ?_; rintro e w' ⟨rfl, rfl⟩; clear hm1)
        | (go_at_call 146; refine (HV2.out _ (box_below hbx)).mono ?_; rintro e w' ⟨rfl, rfl⟩)
        | (go_at_call 147; refine (HVZ.out _ (box_below hbx)).mono ?_; rintro e w2 ⟨rfl, hb2⟩; have hby := below_go hbx (by simp) hb2; obtain ⟨n0, n1, n2, n3, n4, n5, hlw2⟩ := box6 hby; clear hbx)
        | (go_at_call 153; refine (HOp.out _ (box_below hby)).mono ?_; rintro e w3 ⟨rfl, hb3⟩))
      refine bodyPost_ret (v := .tuple #[.slice C cs.length cc, .int .i64 0]) (by simp [results, Tryz.results85, go_sem]) rfl ⟨⟨C, cc, by rw [HR2.out], by rw [HR2.out]; exact HF.out.below (bel2 hb3 (box_below hby))⟩, bel2 hb3 (box_below hby)⟩
    · have hqb : (q != 0) = true := by simpa using hq
      have HR2 := hide (HR.out.trans (if_pos hq))
      go_enter Tryz.func85, Tryz.ntmps85
      go_wp2_with (first
        | (go_at_call 16; refine (HVS.out _ (box_below hbox)).mono ?_; rintro e w1 ⟨rfl, hb1⟩; have hbx := below_go hbox (by simp) hb1; obtain ⟨m0, m1, m2, m3, m4, m5, hlw⟩ := box6 hbx; have hm1 := box_below hbx; clear hbox)
        | (go_at_call 146; refine (HV1.out _ hm1).mono ?_; rintro e w' ⟨rfl, rfl⟩; clear hm1)
        | (go_at_call 146; refine (HV2.out _ (box_below hbx)).mono ?_; rintro e w' ⟨rfl, rfl⟩)
        | (go_at_call 147; refine (HVZ.out _ (box_below hbx)).mono ?_; rintro e w2 ⟨rfl, hb2⟩; have hby := below_go hbx (by simp) hb2; obtain ⟨n0, n1, n2, n3, n4, n5, hlw2⟩ := box6 hby; clear hbx)
        | (go_at_call 153; refine (HOp.out _ (box_below hby)).mono ?_; rintro e w3 ⟨rfl, hb3⟩))
      refine bodyPost_ret (v := .tuple #[.slice none 0 0, .int .i64 q]) (by simp [results, Tryz.results85, go_sem]) rfl ⟨⟨none, 0, by rw [HR2.out]; rfl, by rw [HR2.out]; exact Firm.nil _ _⟩, bel2 hb3 (box_below hby)⟩
  · have HR := hide (show r = if joinX cs ⟨7, src, names, others, its, cond⟩ right ≠ 0 then ([], joinX cs ⟨7, src, names, others, its, cond⟩ right) else (cs, 0) from HX4.out.trans (by unfold opC; simp))
    obtain ⟨hno, hl⟩ := join_zero (s := ⟨7, src, names, others, its, cond⟩) (by have h9 := hop0; unfold opS at h9; simpa using h9)
    have HN := hide hno
    clear hno
    have HOp := hide (fun W (hb : Below w.heap.size w W) => ref15_join_any C cs cc ⟨7, src, names, others, its, cond⟩ _ R right rc W (HC.out.below hb) (by omega) (HRt.out.below hb) hrl (HA.out.below hb) HO.out HN.out)
    clear HX4 hop0
    generalize joinX cs ⟨7, src, names, others, its, cond⟩ right = q at *
    by_cases hq : q = 0
    · subst hq
      have HR2 := hide (HR.out.trans (if_neg (by simp)))
      go_enter Tryz.func85, Tryz.ntmps85
      go_wp2_with (first
        | (go_at_call 16; refine (HVS.out _ (box_below hbox)).mono ?_; rintro e w1 ⟨rfl, hb1⟩; have hbx := below_go hbox (by simp) hb1; obtain ⟨m0, m1, m2, m3, m4, m5, hlw⟩ := box6 hbx; have hm1 := box_below hbx; clear hbox)
        | (go_at_call 146; refine (HV1.out _ hm1).mono ?_; rintro e w' ⟨rfl, rfl⟩; clear hm1)
        | (go_at_call 146; refine (HV2.out _ (box_below hbx)).mono ?_; rintro e w' ⟨rfl, rfl⟩)
        | (go_at_call 147; refine (HVZ.out _ (box_below hbx)).mono ?_; rintro e w2 ⟨rfl, hb2⟩; have hby := below_go hbx (by simp) hb2; obtain ⟨n0, n1, n2, n3, n4, n5, hlw2⟩ := box6 hby; clear hbx)
        | (go_at_call 153; refine (HOp.out _ (box_below hby)).mono ?_; rintro e w3 ⟨rfl, hb3⟩))
      refine bodyPost_ret (v := .tuple #[.slice C cs.length cc, .int .i64 0]) (by simp [results, Tryz.results85, go_sem]) rfl ⟨⟨C, cc, by rw [HR2.out], by rw [HR2.out]; exact HF.out.below (bel2 hb3 (box_below hby))⟩, bel2 hb3 (box_below hby)⟩
    · have hqb : (q != 0) = true := by simpa using hq
      have HR2 := hide (HR.out.trans (if_pos hq))
      go_enter Tryz.func85, Tryz.ntmps85
      go_wp2_with (first
        | (go_at_call 16; refine (HVS.out _ (box_below hbox)).mono ?_; rintro e w1 ⟨rfl, hb1⟩; have hbx := below_go hbox (by simp) hb1; obtain ⟨m0, m1, m2, m3, m4, m5, hlw⟩ := box6 hbx; have hm1 := box_below hbx; clear hbox)
        | (go_at_call 146; refine (HV1.out _ hm1).mono ?_; rintro e w' ⟨rfl, rfl⟩; clear hm1)
        | (go_at_call 146; refine (HV2.out _ (box_below hbx)).mono ?_; rintro e w' ⟨rfl, rfl⟩)
        | (go_at_call 147; refine (HVZ.out _ (box_below hbx)).mono ?_; rintro e w2 ⟨rfl, hb2⟩; have hby := below_go hbx (by simp) hb2; obtain ⟨n0, n1, n2, n3, n4, n5, hlw2⟩ := box6 hby; clear hbx)
        | (go_at_call 153; refine (HOp.out _ (box_below hby)).mono ?_; rintro e w3 ⟨rfl, hb3⟩))
      refine bodyPost_ret (v := .tuple #[.slice none 0 0, .int .i64 q]) (by simp [results, Tryz.results85, go_sem]) rfl ⟨⟨none, 0, by rw [HR2.out]; rfl, by rw [HR2.out]; exact Firm.nil _ _⟩, bel2 hb3 (box_below hby)⟩
  · have HR := hide (show r = unionS cs ⟨8, src, names, others, its, cond⟩ right from HX4.out.trans (by unfold opC; simp))
    have HOp := hide (fun W (hb : Below w.heap.size w W) => ref15_same_any C cs cc ⟨8, src, names, others, its, cond⟩ ⟨nA, nC, oA, oC, iA, iC, cA, cC⟩ R right rc W (HF.out.below hb) HG.out (HRt.out.below hb) hrl)
    clear HX4 hop0
    generalize unionS cs ⟨8, src, names, others, its, cond⟩ right = q at *
    go_enter Tryz.func85, Tryz.ntmps85
    go_wp2_with (first
      | (go_at_call 16; refine (HVS.out _ (box_below hbox)).mono ?_; rintro e w1 ⟨rfl, hb1⟩; have hbx := below_go hbox (by simp) hb1; obtain ⟨m0, m1, m2, m3, m4, m5, hlw⟩ := box6 hbx; have hm1 := box_below hbx; clear hbox)
      | (go_at_call 146; refine (HV1.out _ hm1).mono ?_; rintro e w' ⟨rfl, rfl⟩; clear hm1)
      | (go_at_call 146; refine (HV2.out _ (box_below hbx)).mono ?_; rintro e w' ⟨rfl, rfl⟩)
      | (go_at_call 147; refine (HVZ.out _ (box_below hbx)).mono ?_; rintro e w2 ⟨rfl, hb2⟩; have hby := below_go hbx (by simp) hb2; obtain ⟨n0, n1, n2, n3, n4, n5, hlw2⟩ := box6 hby; clear hbx)
      | (go_at_call 154; refine (HOp.out _ (box_below hby)).mono ?_; rintro e w3 ⟨⟨A3, c3, rfl, hf3⟩, hb3⟩; have HF3 := hide hf3; clear hf3))
    refine bodyPost_ret (v := .tuple #[.slice A3 q.1.length c3, .int .i64 q.2]) (by simp [results, Tryz.results85, go_sem]) rfl ⟨⟨A3, c3, by rw [HR.out], by rw [HR.out]; exact HF3.out⟩, bel2 hb3 (box_below hby)⟩
  · have HR := hide (show r = unionS cs ⟨9, src, names, others, its, cond⟩ right from HX4.out.trans (by unfold opC; simp))
    have HOp := hide (fun W (hb : Below w.heap.size w W) => ref15_same_any C cs cc ⟨9, src, names, others, its, cond⟩ ⟨nA, nC, oA, oC, iA, iC, cA, cC⟩ R right rc W (HF.out.below hb) HG.out (HRt.out.below hb) hrl)
    clear HX4 hop0
    generalize unionS cs ⟨9, src, names, others, its, cond⟩ right = q at *
    go_enter Tryz.func85, Tryz.ntmps85
    go_wp2_with (first
      | (go_at_call 16; refine (HVS.out _ (box_below hbox)).mono ?_; rintro e w1 ⟨rfl, hb1⟩; have hbx := below_go hbox (by simp) hb1; obtain ⟨m0, m1, m2, m3, m4, m5, hlw⟩ := box6 hbx; have hm1 := box_below hbx; clear hbox)
      | (go_at_call 146; refine (HV1.out _ hm1).mono ?_; rintro e w' ⟨rfl, rfl⟩; clear hm1)
      | (go_at_call 146; refine (HV2.out _ (box_below hbx)).mono ?_; rintro e w' ⟨rfl, rfl⟩)
      | (go_at_call 147; refine (HVZ.out _ (box_below hbx)).mono ?_; rintro e w2 ⟨rfl, hb2⟩; have hby := below_go hbx (by simp) hb2; obtain ⟨n0, n1, n2, n3, n4, n5, hlw2⟩ := box6 hby; clear hbx)
      | (go_at_call 154; refine (HOp.out _ (box_below hby)).mono ?_; rintro e w3 ⟨⟨A3, c3, rfl, hf3⟩, hb3⟩; have HF3 := hide hf3; clear hf3))
    refine bodyPost_ret (v := .tuple #[.slice A3 q.1.length c3, .int .i64 q.2]) (by simp [results, Tryz.results85, go_sem]) rfl ⟨⟨A3, c3, by rw [HR.out], by rw [HR.out]; exact HF3.out⟩, bel2 hb3 (box_below hby)⟩
  · have HR := hide (show r = (cs, 0) from HX4.out.trans (by unfold opC; simp))
    clear HX4 hop0
    go_enter Tryz.func85, Tryz.ntmps85
    go_wp2_with (first
      | (go_at_call 16; refine (HVS.out _ (box_below hbox)).mono ?_; rintro e w1 ⟨rfl, hb1⟩; have hbx := below_go hbox (by simp) hb1; obtain ⟨m0, m1, m2, m3, m4, m5, hlw⟩ := box6 hbx; have hm1 := box_below hbx; clear hbox)
      | (go_at_call 146; refine (HV1.out _ hm1).mono ?_; rintro e w' ⟨rfl, rfl⟩; clear hm1)
      | (go_at_call 146; refine (HV2.out _ (box_below hbx)).mono ?_; rintro e w' ⟨rfl, rfl⟩)
      | (go_at_call 147; refine (HVZ.out _ (box_below hbx)).mono ?_; rintro e w2 ⟨rfl, hb2⟩; have hby := below_go hbx (by simp) hb2; obtain ⟨n0, n1, n2, n3, n4, n5, hlw2⟩ := box6 hby; clear hbx))
    refine bodyPost_ret (v := .tuple #[.slice C cs.length cc, .int .i64 0]) (by simp [results, Tryz.results85, go_sem]) rfl ⟨⟨C, cc, by rw [HR.out], by rw [HR.out]; exact HF.out.below (box_below hby)⟩, box_below hby⟩
  · have HR := hide (show r = grpS cs ⟨11, src, names, others, its, cond⟩ from HX4.out.trans (by unfold opC; simp))
    have hl := group_zero (s := ⟨11, src, names, others, its, cond⟩) (by have h9 := hop0; unfold opS at h9; simpa using h9)
    have HOp := hide (fun W (hb : Below w.heap.size w W) => ref15_group_any C cs cc ⟨11, src, names, others, its, cond⟩ _ W (HF.out.below hb) HG.out (HA.out.below hb) HO.out hl.2 hl.1)
    clear HX4 hop0
    generalize grpS cs ⟨11, src, names, others, its, cond⟩ = q at *
    go_enter Tryz.func85, Tryz.ntmps85
    go_wp2_with (first
      | (go_at_call 16; refine (HVS.out _ (box_below hbox)).mono ?_; rintro e w1 ⟨rfl, hb1⟩; have hbx := below_go hbox (by simp) hb1; obtain ⟨m0, m1, m2, m3, m4, m5, hlw⟩ := box6 hbx; have hm1 := box_below hbx; clear hbox)
      | (go_at_call 146; refine (HV1.out _ hm1).mono ?_; rintro e w' ⟨rfl, rfl⟩; clear hm1)
      | (go_at_call 146; refine (HV2.out _ (box_below hbx)).mono ?_; rintro e w' ⟨rfl, rfl⟩)
      | (go_at_call 147; refine (HVZ.out _ (box_below hbx)).mono ?_; rintro e w2 ⟨rfl, hb2⟩; have hby := below_go hbx (by simp) hb2; obtain ⟨n0, n1, n2, n3, n4, n5, hlw2⟩ := box6 hby; clear hbx)
      | (go_at_call 155; refine (HOp.out _ (box_below hby)).mono ?_; rintro e w3 ⟨⟨A3, c3, rfl, hf3⟩, hb3⟩; have HF3 := hide hf3; clear hf3))
    refine bodyPost_ret (v := .tuple #[.slice A3 q.1.length c3, .int .i64 q.2]) (by simp [results, Tryz.results85, go_sem]) rfl ⟨⟨A3, c3, by rw [HR.out], by rw [HR.out]; exact HF3.out⟩, bel2 hb3 (box_below hby)⟩
  · have HR := hide (show r = wndS cs ⟨12, src, names, others, its, cond⟩ from HX4.out.trans (by unfold opC; simp))
    have hl := window_zero (s := ⟨12, src, names, others, its, cond⟩) (by have h9 := hop0; unfold opS at h9; simpa using h9)
    have HOp := hide (fun W (hb : Below w.heap.size w W) => ref15_window_any C cs cc ⟨12, src, names, others, its, cond⟩ _ W (HF.out.below hb) HG.out (HA.out.below hb) HO.out hl)
    clear HX4 hop0
    generalize wndS cs ⟨12, src, names, others, its, cond⟩ = q at *
    go_enter Tryz.func85, Tryz.ntmps85
    go_wp2_with (first
      | (go_at_call 16; refine (HVS.out _ (box_below hbox)).mono ?_; rintro e w1 ⟨rfl, hb1⟩; have hbx := below_go hbox (by simp) hb1; obtain ⟨m0, m1, m2, m3, m4, m5, hlw⟩ := box6 hbx; have hm1 := box_below hbx; clear hbox)
      | (go_at_call 146; refine (HV1.out _ hm1).mono ?_; rintro e w' ⟨rfl, rfl⟩; clear hm1)
      | (go_at_call 146; refine (HV2.out _ (box_below hbx)).mono ?_; rintro e w' ⟨rfl, rfl⟩)
      | (go_at_call 147; refine (HVZ.out _ (box_below hbx)).mono ?_; rintro e w2 ⟨rfl, hb2⟩; have hby := below_go hbx (by simp) hb2; obtain ⟨n0, n1, n2, n3, n4, n5, hlw2⟩ := box6 hby; clear hbx)
      | (go_at_call 156; refine (HOp.out _ (box_below hby)).mono ?_; rintro e w3 ⟨⟨A3, c3, rfl, hf3⟩, hb3⟩; have HF3 := hide hf3; clear hf3))
    refine bodyPost_ret (v := .tuple #[.slice A3 q.1.length c3, .int .i64 q.2]) (by simp [results, Tryz.results85, go_sem]) rfl ⟨⟨A3, c3, by rw [HR.out], by rw [HR.out]; exact HF3.out⟩, bel2 hb3 (box_below hby)⟩
