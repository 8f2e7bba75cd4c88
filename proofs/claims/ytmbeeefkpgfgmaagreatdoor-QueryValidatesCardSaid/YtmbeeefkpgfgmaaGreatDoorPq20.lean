/- Contracts: ref11.Windowed, group. Contract: ref11.window. Contracts: ref11.ValidateStep, ref11.Validate. -/
import Derived.Test.YtmbeeefkpgfgmaaGreatDoorPq17
set_option linter.unusedVariables false
set_option linter.unusedSimpArgs false
namespace Go.Proofs.YtmbeeefkpgfgmaaGreatDoor
open Go.RowKit
theorem ref11_Windowed_any (f : Int) (w : World) : Calls Tryz.prog 105 #[.int .i64 f] w fun e w' => e = .returned (.tuple #[.bool (winB f).1, .bool (winB f).2.1, .bool (winB f).2.2]) ∧ w = w' := by
  by_cases h : f = 1 ∨ f = 8 ∨ f = 9 ∨ f = 3 ∨ f = 12 ∨ f = 13 ∨ f = 10 ∨ f = 11
  · rcases h with rfl | rfl | rfl | rfl | rfl | rfl | rfl | rfl
    all_goals
      go_enter Tryz.func105, Tryz.ntmps105
      go_wp2
      go_ret3
      exact ⟨rfl, rfl⟩
  · have e : winB f = (false, false, false) := by unfold winB; rw [if_neg (by omega), if_neg (by omega), if_neg (by omega)]
    rw [e]
    have q1 : (f == 1) = false := beq_eq_false_iff_ne.2 (by omega)
    have q8 : (f == 8) = false := beq_eq_false_iff_ne.2 (by omega)
    have q9 : (f == 9) = false := beq_eq_false_iff_ne.2 (by omega)
    have q3 : (f == 3) = false := beq_eq_false_iff_ne.2 (by omega)
    have q12 : (f == 12) = false := beq_eq_false_iff_ne.2 (by omega)
    have q13 : (f == 13) = false := beq_eq_false_iff_ne.2 (by omega)
    have q10 : (f == 10) = false := beq_eq_false_iff_ne.2 (by omega)
    have q11 : (f == 11) = false := beq_eq_false_iff_ne.2 (by omega)
    clear h e
    go_enter Tryz.func105, Tryz.ntmps105
    go_wp2
    go_ret3
    exact ⟨rfl, rfl⟩
set_option maxRecDepth 100000 in
set_option maxHeartbeats 8000000 in
theorem ref11_group_any (s : Stp) (a : Adr) (w : World) (hA : s.At w a) (ho : s.ok) :
    Calls Tryz.prog 66 #[s.agg a] w fun e w' => e = .returned (.int .i64 (groupS s)) ∧ Below w.heap.size w w' := by
  have HI := hide hA.items
  have hli := ho.items
  have hln := ho.names
  have HE := hide (show groupS s = thenE (listS s.names 0) (if s.names.length + s.items.length = 0 then 2 else itemsS s.items 0 true true false false (groupE s.names)) from rfl)
  have HR1 := hide (fun W (hb : Below w.heap.size w W) => ref11_list_any a.nA s.names a.nC 0 W (hA.names.below hb) ho.names (by omega) hA.cn)
  have HR2 := hide (fun W (hb : Below w.heap.size w W) => ref11_list_any a.oA s.others a.oC 0 W (hA.others.below hb) ho.others (by omega) hA.co)
  have HH0 := hide (fun (x : Bytes) W (hb : Below w.heap.size w W) => has_str a.nA s.names a.nC x W (hA.names.below hb) ho.names)
  clear hA ho
  obtain ⟨op, src, names, others, its, cond⟩ := s
  obtain ⟨nA, nC, oA, oC, iA, iC, cA, cC⟩ := a
  simp only at HI HE HR1 HR2 HH0 hli hln ⊢
  show Calls Tryz.prog 66 #[.agg #[.int .i64 op, str src, .slice nA names.length nC, .slice oA others.length oC, .slice iA its.length iC, .slice cA cond.length cC]] w _
  generalize listS names 0 = e1 at *
  generalize listS others 0 = e2 at *
  generalize names.length = ln at *
  generalize others.length = lo at *
  generalize cond.length = lc
  generalize groupS _ = r at *
  have hbox : Below (w.heap.size + 1) (w.alloc (.cells #[.int .i64 op, str src, .slice nA ln nC, .slice oA lo oC, .slice iA its.length iC, .slice cA lc cC] 27)) (w.alloc (.cells #[.int .i64 op, str src, .slice nA ln nC, .slice oA lo oC, .slice iA its.length iC, .slice cA lc cC] 27)) := Below.refl _ _
  have L1 := hide (show ∀ W, Below (w.heap.size + 1) (w.alloc (.cells #[.int .i64 op, str src, .slice nA ln nC, .slice oA lo oC, .slice iA its.length iC, .slice cA lc cC] 27)) W → Calls Tryz.prog 63 #[.slice nA ln nC, .int .i64 0] W fun e w' => e = .returned (.int .i64 e1) ∧ Below (w.heap.size + 1) (w.alloc (.cells #[.int .i64 op, str src, .slice nA ln nC, .slice oA lo oC, .slice iA its.length iC, .slice cA lc cC] 27)) w' from fun W hW => (HR1.out W (box_below hW)).mono fun e w' ⟨h1, h2⟩ => ⟨h1, below_go hW (by simp) h2⟩)
  have L2 := hide (show ∀ W, Below (w.heap.size + 1) (w.alloc (.cells #[.int .i64 op, str src, .slice nA ln nC, .slice oA lo oC, .slice iA its.length iC, .slice cA lc cC] 27)) W → Calls Tryz.prog 63 #[.slice oA lo oC, .int .i64 0] W fun e w' => e = .returned (.int .i64 e2) ∧ Below (w.heap.size + 1) (w.alloc (.cells #[.int .i64 op, str src, .slice nA ln nC, .slice oA lo oC, .slice iA its.length iC, .slice cA lc cC] 27)) w' from fun W hW => (HR2.out W (box_below hW)).mono fun e w' ⟨h1, h2⟩ => ⟨h1, below_go hW (by simp) h2⟩)
  clear HR1 HR2
  by_cases h1 : e1 = 0
  rotate_left
  · have hb : (e1 != 0) = true := by simpa using h1
    have HX := hide (show r = e1 from by rw [HE.out]; unfold thenE; rw [if_neg h1])
    clear HE h1
    go_enter Tryz.func66, Tryz.ntmps66
    go_wp2_with (go_at_call 63; refine (L1.out _ hbox).mono ?_; rintro e w1 ⟨rfl, hb1⟩; obtain ⟨m0, m1, m2, m3, m4, m5, hlw⟩ := box6 hb1)
    go_ret
    exact ⟨ret_int HX.out.symm, box_below hb1⟩
  subst h1
  have HE2 := hide (show r = if ln + its.length = 0 then 2 else itemsS its 0 true true false false (groupE names) from by rw [HE.out]; unfold thenE; rw [if_pos rfl])
  clear HE
  by_cases h4 : 12 < its.length
  · have HX := hide (show r = 2 from by rw [HE2.out, if_neg (by omega)]; unfold itemsS; rw [if_pos (.inr h4)])
    clear HE2
    go_enter Tryz.func66, Tryz.ntmps66
    go_wp2_with (first
      | (go_at_call 63; refine (L1.out _ hbox).mono ?_; rintro e w1 ⟨rfl, hb1⟩; obtain ⟨m0, m1, m2, m3, m4, m5, hlw⟩ := box6 hb1))
    all_goals first | (exfalso; omega) | skip
    go_ret
    exact ⟨ret_int HX.out.symm, box_below hb1⟩
  by_cases h3 : ln + its.length = 0
  · have HX := hide (show r = 2 from by rw [HE2.out, if_pos h3])
    have hz : ((its.length : Int) + (ln : Int) == 0) = true := by simp; omega
    clear HE2
    go_enter Tryz.func66, Tryz.ntmps66
    go_wp2_with (first
      | (go_at_call 63; refine (L1.out _ hbox).mono ?_; rintro e w1 ⟨rfl, hb1⟩; obtain ⟨m0, m1, m2, m3, m4, m5, hlw⟩ := box6 hb1))
    all_goals first | (exfalso; omega) | skip
    go_ret
    exact ⟨ret_int HX.out.symm, box_below hb1⟩
  have hz : ((its.length : Int) + (ln : Int) == 0) = false := beq_eq_false_iff_ne.2 (by omega)
  have HE5 := hide ((HE2.out.trans (if_neg h3)).trans (itemsS_in (by omega)))
  clear HE2
  go_enter Tryz.func66, Tryz.ntmps66
  go_wp2_with (first
    | (go_at_call 63; refine (L1.out _ hbox).mono ?_; rintro e w1 ⟨rfl, hb1⟩; obtain ⟨m0, m1, m2, m3, m4, m5, hlw⟩ := box6 hb1))
  all_goals first | (exfalso; omega) | skip
  go_loopw [4] (fun i wr => ∃ k : Nat, k ≤ its.length ∧ i = .int .i64 k ∧ Hid (∀ j, j < k → itemF its true true false false (groupE names) j = 0) ∧ Below (w.heap.size + 1) (w.alloc (.cells #[.int .i64 op, str src, .slice nA ln nC, .slice oA lo oC, .slice iA its.length iC, .slice cA lc cC] 27)) wr) (fun i _ => its.length - (intOf i).toNat)
  case atStart => exact ⟨0, by omega, rfl, fun j hj => absurd hj (Nat.not_lt_zero _), hb1⟩
  case round =>
    obtain ⟨k, hk, rfl, HZ, hbel⟩ := hrel
    have hbw := box_below hbel
    obtain ⟨m0, m1, m2, m3, m4, m5, hlw⟩ := box6 hbel
    by_cases hlt : k < its.length
    · rcases HI.out.below hbw with e | ⟨g, off, rfl, hg, hc⟩
      · exact absurd hlt (by rw [e]; simp)
      obtain ⟨c0, c1, c2, c3, E, ec, c4, hE⟩ := hc k hlt
      have HIt := hide (fun W (hb : Below wr.heap.size wr W) => ref11_item_any (some ⟨g, off, none⟩) its iC k true true false false W (ItsAt.below (.inr ⟨g, off, rfl, hg, hc⟩) hb) hlt hli (by simp [IsKind]))
      have HV := hide (fun W => nmB_str its[k].col W)
      have HH := hide (fun W hb => HH0.out its[k].name W hb)
      have HT := hide (itemF_at hlt true true false false (groupE names))
      have HF := hide (fun x (e : itemF its true true false false (groupE names) k = x) (hx : x ≠ 0) => (HE5.out.trans (firstE_hit HZ.out (by rw [e]; exact hx) hlt)).trans e)
      have HN := hide (fun (e : itemF its true true false false (groupE names) k = 0) => step_lt HZ.out e)
      clear hc hE
      generalize itemE its k true true false false = u at *
      generalize its[k] = x at *
      obtain ⟨xn, xf, xc, xm, xe⟩ := x
      simp only at c0 c1 c2 c3 c4 HV HH HT
      generalize xe.length = le at *
      by_cases hu : u = 0
      rotate_left
      · have hub : (u != 0) = true := by simpa using hu
        have HR := hide (HF.out u (by rw [HT.out, if_neg hu]) hu)
        clear HT HF HN hu
        go_wp2_with (first
          | (go_at_call 103; refine (HIt.out _ ((Below.refl _ _).alloc (Nat.le_refl _) _)).mono ?_; rintro e w4 ⟨rfl, hb4⟩; obtain ⟨n0, n1, n2, n3, n4, hlx⟩ := box5 (below_go (Below.refl (wr.heap.size + 1) (wr.alloc _)) (by simp) hb4); have hs4 := below_go (hbel.alloc hlw _) (by simp) hb4; obtain ⟨s0, s1, s2, s3, s4, s5, hls⟩ := box6 hs4))
        all_goals first | (go_ret; exact ⟨ret_int HR.out.symm, box_below hs4⟩) | (exfalso; omega) | (exfalso; simp_all; done)
      subst hu
      have HT2 := hide (HT.out.trans (if_pos rfl))
      clear HT
      by_cases hin : xn ∈ names
      · have hinb : decide (xn ∈ names) = true := by simpa using hin
        rw [hinb] at HH
        have HR := hide (HF.out 6 (HT2.out.trans (by unfold groupE; rw [if_pos hin])) (by decide))
        clear HF HN HT2 hin hinb
        go_wp2_with (first
          | (go_at_call 103; refine (HIt.out _ ((Below.refl _ _).alloc (Nat.le_refl _) _)).mono ?_; rintro e w4 ⟨rfl, hb4⟩; obtain ⟨n0, n1, n2, n3, n4, hlx⟩ := box5 (below_go (Below.refl (wr.heap.size + 1) (wr.alloc _)) (by simp) hb4); have hs4 := below_go (hbel.alloc hlw _) (by simp) hb4; obtain ⟨s0, s1, s2, s3, s4, s5, hls⟩ := box6 hs4)
          | (go_at_call 20; refine (HH.out _ (box_below hs4)).mono ?_; rintro e w' ⟨rfl, rfl⟩))
        all_goals first | (go_ret; exact ⟨ret_int HR.out.symm, box_below hs4⟩) | (exfalso; omega) | (exfalso; simp_all; done)
      have hinb : decide (xn ∈ names) = false := by simpa using hin
      rw [hinb] at HH
      have HT3 := hide (HT2.out.trans (by unfold groupE; rw [if_neg hin]))
      clear HT2 hinb hin
      simp only at HT3
      by_cases q1 : xf < 1
      · have HR := hide (HF.out 8 (HT3.out.trans (by rw [if_pos (.inl q1)])) (by decide))
        clear HF HN HT3
        go_wp2_with (first
          | (go_at_call 103; refine (HIt.out _ ((Below.refl _ _).alloc (Nat.le_refl _) _)).mono ?_; rintro e w4 ⟨rfl, hb4⟩; obtain ⟨n0, n1, n2, n3, n4, hlx⟩ := box5 (below_go (Below.refl (wr.heap.size + 1) (wr.alloc _)) (by simp) hb4); have hs4 := below_go (hbel.alloc hlw _) (by simp) hb4; obtain ⟨s0, s1, s2, s3, s4, s5, hls⟩ := box6 hs4)
          | (go_at_call 20; refine (HH.out _ (box_below hs4)).mono ?_; rintro e w' ⟨rfl, rfl⟩))
        all_goals first | (go_ret; exact ⟨ret_int HR.out.symm, box_below hs4⟩) | (exfalso; omega) | (exfalso; simp_all; done)
      by_cases q2 : 7 < xf
      · have HR := hide (HF.out 8 (HT3.out.trans (by rw [if_pos (.inr (.inl q2))])) (by decide))
        clear HF HN HT3
        go_wp2_with (first
          | (go_at_call 103; refine (HIt.out _ ((Below.refl _ _).alloc (Nat.le_refl _) _)).mono ?_; rintro e w4 ⟨rfl, hb4⟩; obtain ⟨n0, n1, n2, n3, n4, hlx⟩ := box5 (below_go (Below.refl (wr.heap.size + 1) (wr.alloc _)) (by simp) hb4); have hs4 := below_go (hbel.alloc hlw _) (by simp) hb4; obtain ⟨s0, s1, s2, s3, s4, s5, hls⟩ := box6 hs4)
          | (go_at_call 20; refine (HH.out _ (box_below hs4)).mono ?_; rintro e w' ⟨rfl, rfl⟩))
        all_goals first | (go_ret; exact ⟨ret_int HR.out.symm, box_below hs4⟩) | (exfalso; omega) | (exfalso; simp_all; done)
      by_cases q3 : xf = 1
      · subst q3
        by_cases q4 : xc = []
        · subst q4
          have HR := hide (HN.out (HT3.out.trans (by simp)))
          clear HF HN HT3
          go_wp2_with (first
            | (go_at_call 103; refine (HIt.out _ ((Below.refl _ _).alloc (Nat.le_refl _) _)).mono ?_; rintro e w4 ⟨rfl, hb4⟩; obtain ⟨n0, n1, n2, n3, n4, hlx⟩ := box5 (below_go (Below.refl (wr.heap.size + 1) (wr.alloc _)) (by simp) hb4); have hs4 := below_go (hbel.alloc hlw _) (by simp) hb4; obtain ⟨s0, s1, s2, s3, s4, s5, hls⟩ := box6 hs4)
            | (go_at_call 20; refine (HH.out _ (box_below hs4)).mono ?_; rintro e w' ⟨rfl, rfl⟩))
          all_goals first | exact ⟨⟨k + 1, by omega, by go_num, HR, hs4⟩, by simp [intOf]; omega⟩ | (exfalso; omega) | (exfalso; simp_all; done)
        · have q5 : xc.isEmpty = false := by cases xc <;> simp_all
          have HR := hide (HF.out 8 (HT3.out.trans (by simp [q4])) (by decide))
          clear HF HN HT3 q4
          go_wp2_with (first
            | (go_at_call 103; refine (HIt.out _ ((Below.refl _ _).alloc (Nat.le_refl _) _)).mono ?_; rintro e w4 ⟨rfl, hb4⟩; obtain ⟨n0, n1, n2, n3, n4, hlx⟩ := box5 (below_go (Below.refl (wr.heap.size + 1) (wr.alloc _)) (by simp) hb4); have hs4 := below_go (hbel.alloc hlw _) (by simp) hb4; obtain ⟨s0, s1, s2, s3, s4, s5, hls⟩ := box6 hs4)
            | (go_at_call 20; refine (HH.out _ (box_below hs4)).mono ?_; rintro e w' ⟨rfl, rfl⟩))
          all_goals first | (go_ret; exact ⟨ret_int HR.out.symm, box_below hs4⟩) | (exfalso; omega) | (exfalso; simp_all; done)
      have q6 : (xf == 1) = false := beq_eq_false_iff_ne.2 q3
      have q7 : (xf != 1) = true := by simpa using q3
      have HT4 := hide (HT3.out.trans (by rw [if_neg (by simp [q3]; omega), if_pos q3]))
      clear HT3 q3
      unfold nameE at HT4
      cases hv : nmB xc
      · rw [hv] at HV HT4
        have HR := hide (HF.out 4 (HT4.out.trans (if_neg (by decide))) (by decide))
        clear HF HN HT4 hv
        go_wp2_with (first
          | (go_at_call 103; refine (HIt.out _ ((Below.refl _ _).alloc (Nat.le_refl _) _)).mono ?_; rintro e w4 ⟨rfl, hb4⟩; obtain ⟨n0, n1, n2, n3, n4, hlx⟩ := box5 (below_go (Below.refl (wr.heap.size + 1) (wr.alloc _)) (by simp) hb4); have hs4 := below_go (hbel.alloc hlw _) (by simp) hb4; obtain ⟨s0, s1, s2, s3, s4, s5, hls⟩ := box6 hs4)
          | (go_at_call 20; refine (HH.out _ (box_below hs4)).mono ?_; rintro e w' ⟨rfl, rfl⟩)
          | (go_at_call 104; refine (HV.out _).mono ?_; rintro e w5 ⟨rfl, hb5⟩; have hs5 := below_go hs4 (by simp) hb5; obtain ⟨t0, t1, t2, t3, t4, t5, hlt5⟩ := box6 hs5; have hn5 := hb5.cell (p := ⟨wr.heap.size, 3, none⟩) hlx; rw [n3] at hn5))
        all_goals first | (go_ret; exact ⟨ret_int HR.out.symm, box_below hs5⟩) | (exfalso; omega) | (exfalso; simp_all; done)
      · rw [hv] at HV HT4
        have HR := hide (HN.out (HT4.out.trans (if_pos rfl)))
        clear HF HN HT4 hv
        go_wp2_with (first
          | (go_at_call 103; refine (HIt.out _ ((Below.refl _ _).alloc (Nat.le_refl _) _)).mono ?_; rintro e w4 ⟨rfl, hb4⟩; obtain ⟨n0, n1, n2, n3, n4, hlx⟩ := box5 (below_go (Below.refl (wr.heap.size + 1) (wr.alloc _)) (by simp) hb4); have hs4 := below_go (hbel.alloc hlw _) (by simp) hb4; obtain ⟨s0, s1, s2, s3, s4, s5, hls⟩ := box6 hs4)
          | (go_at_call 20; refine (HH.out _ (box_below hs4)).mono ?_; rintro e w' ⟨rfl, rfl⟩)
          | (go_at_call 104; refine (HV.out _).mono ?_; rintro e w5 ⟨rfl, hb5⟩; have hs5 := below_go hs4 (by simp) hb5; obtain ⟨t0, t1, t2, t3, t4, t5, hlt5⟩ := box6 hs5; have hn5 := hb5.cell (p := ⟨wr.heap.size, 3, none⟩) hlx; rw [n3] at hn5))
        all_goals first | exact ⟨⟨k + 1, by omega, by go_num, HR, hs5⟩, by simp [intOf]; omega⟩ | (exfalso; omega) | (exfalso; simp_all; done)
    · obtain rfl : k = its.length := by omega
      have HR := hide (HE5.out.trans (firstE_none HZ.out))
      go_wp2
      go_ret
      exact ⟨ret_int HR.out.symm, hbw⟩
end Go.Proofs.YtmbeeefkpgfgmaaGreatDoor
namespace Go.Proofs.YtmbeeefkpgfgmaaGreatDoor
open Go.RowKit
set_option maxRecDepth 100000 in
set_option maxHeartbeats 8000000 in
theorem ref11_window_any (s : Stp) (a : Adr) (w : World) (hA : s.At w a) (ho : s.ok) :
    Calls Tryz.prog 67 #[s.agg a] w fun e w' => e = .returned (.int .i64 (windowS s)) ∧ Below w.heap.size w w' := by
  have HI := hide hA.items
  have hli := ho.items
  have hln := ho.names
  have HE := hide (show windowS s = thenE (listS s.names 0) (thenE (listS s.others 0) (itemsS s.items 1 true true true false windowE)) from rfl)
  have HR1 := hide (fun W (hb : Below w.heap.size w W) => ref11_list_any a.nA s.names a.nC 0 W (hA.names.below hb) ho.names (by omega) hA.cn)
  have HR2 := hide (fun W (hb : Below w.heap.size w W) => ref11_list_any a.oA s.others a.oC 0 W (hA.others.below hb) ho.others (by omega) hA.co)
  have HH0 := hide (fun (x : Bytes) W (hb : Below w.heap.size w W) => has_str a.nA s.names a.nC x W (hA.names.below hb) ho.names)
  clear hA ho
  obtain ⟨op, src, names, others, its, cond⟩ := s
  obtain ⟨nA, nC, oA, oC, iA, iC, cA, cC⟩ := a
  simp only at HI HE HR1 HR2 HH0 hli hln ⊢
  show Calls Tryz.prog 67 #[.agg #[.int .i64 op, str src, .slice nA names.length nC, .slice oA others.length oC, .slice iA its.length iC, .slice cA cond.length cC]] w _
  generalize listS names 0 = e1 at *
  generalize listS others 0 = e2 at *
  generalize names.length = ln at *
  generalize others.length = lo at *
  generalize cond.length = lc
  generalize windowS _ = r at *
  have hbox : Below (w.heap.size + 1) (w.alloc (.cells #[.int .i64 op, str src, .slice nA ln nC, .slice oA lo oC, .slice iA its.length iC, .slice cA lc cC] 27)) (w.alloc (.cells #[.int .i64 op, str src, .slice nA ln nC, .slice oA lo oC, .slice iA its.length iC, .slice cA lc cC] 27)) := Below.refl _ _
  have L1 := hide (show ∀ W, Below (w.heap.size + 1) (w.alloc (.cells #[.int .i64 op, str src, .slice nA ln nC, .slice oA lo oC, .slice iA its.length iC, .slice cA lc cC] 27)) W → Calls Tryz.prog 63 #[.slice nA ln nC, .int .i64 0] W fun e w' => e = .returned (.int .i64 e1) ∧ Below (w.heap.size + 1) (w.alloc (.cells #[.int .i64 op, str src, .slice nA ln nC, .slice oA lo oC, .slice iA its.length iC, .slice cA lc cC] 27)) w' from fun W hW => (HR1.out W (box_below hW)).mono fun e w' ⟨h1, h2⟩ => ⟨h1, below_go hW (by simp) h2⟩)
  have L2 := hide (show ∀ W, Below (w.heap.size + 1) (w.alloc (.cells #[.int .i64 op, str src, .slice nA ln nC, .slice oA lo oC, .slice iA its.length iC, .slice cA lc cC] 27)) W → Calls Tryz.prog 63 #[.slice oA lo oC, .int .i64 0] W fun e w' => e = .returned (.int .i64 e2) ∧ Below (w.heap.size + 1) (w.alloc (.cells #[.int .i64 op, str src, .slice nA ln nC, .slice oA lo oC, .slice iA its.length iC, .slice cA lc cC] 27)) w' from fun W hW => (HR2.out W (box_below hW)).mono fun e w' ⟨h1, h2⟩ => ⟨h1, below_go hW (by simp) h2⟩)
  clear HR1 HR2
  by_cases h1 : e1 = 0
  rotate_left
  · have hb : (e1 != 0) = true := by simpa using h1
    have HX := hide (show r = e1 from by rw [HE.out]; unfold thenE; rw [if_neg h1])
    clear HE h1
    go_enter Tryz.func67, Tryz.ntmps67
    go_wp2_with (go_at_call 63; refine (L1.out _ hbox).mono ?_; rintro e w1 ⟨rfl, hb1⟩; obtain ⟨m0, m1, m2, m3, m4, m5, hlw⟩ := box6 hb1; clear hbox)
    go_ret
    exact ⟨ret_int HX.out.symm, box_below hb1⟩
  subst h1
  by_cases h2 : e2 = 0
  rotate_left
  · have hb : (e2 != 0) = true := by simpa using h2
    have HX := hide (show r = e2 from by rw [HE.out]; unfold thenE; rw [if_pos rfl, if_neg h2])
    clear HE h2
    go_enter Tryz.func67, Tryz.ntmps67
    go_wp2_with (first
      | (go_at_call 63; refine (L1.out _ hbox).mono ?_; rintro e w1 ⟨rfl, hb1⟩; obtain ⟨m0, m1, m2, m3, m4, m5, hlw⟩ := box6 hb1; clear hbox)
      | (go_at_call 63; refine (L2.out _ hb1).mono ?_; rintro e w2 ⟨rfl, hb2⟩; obtain ⟨o0, o1, o2, o3, o4, o5, hlw2⟩ := box6 hb2; clear hb1))
    go_ret
    exact ⟨ret_int HX.out.symm, box_below hb2⟩
  subst h2
  have HE2 := hide (show r = itemsS its 1 true true true false windowE from by rw [HE.out]; unfold thenE; rw [if_pos rfl, if_pos rfl])
  clear HE
  by_cases h3 : its.length < 1
  · have HX := hide (show r = 2 from by rw [HE2.out]; unfold itemsS; rw [if_pos (.inl h3)])
    clear HE2
    go_enter Tryz.func67, Tryz.ntmps67
    go_wp2_with (first
      | (go_at_call 63; refine (L1.out _ hbox).mono ?_; rintro e w1 ⟨rfl, hb1⟩; obtain ⟨m0, m1, m2, m3, m4, m5, hlw⟩ := box6 hb1; clear hbox)
      | (go_at_call 63; refine (L2.out _ hb1).mono ?_; rintro e w2 ⟨rfl, hb2⟩; obtain ⟨o0, o1, o2, o3, o4, o5, hlw2⟩ := box6 hb2; clear hb1))
    all_goals first | (exfalso; omega) | skip
    go_ret
    exact ⟨ret_int HX.out.symm, box_below hb2⟩
  by_cases h4 : 12 < its.length
  · have HX := hide (show r = 2 from by rw [HE2.out]; unfold itemsS; rw [if_pos (.inr h4)])
    clear HE2
    go_enter Tryz.func67, Tryz.ntmps67
    go_wp2_with (first
      | (go_at_call 63; refine (L1.out _ hbox).mono ?_; rintro e w1 ⟨rfl, hb1⟩; obtain ⟨m0, m1, m2, m3, m4, m5, hlw⟩ := box6 hb1; clear hbox)
      | (go_at_call 63; refine (L2.out _ hb1).mono ?_; rintro e w2 ⟨rfl, hb2⟩; obtain ⟨o0, o1, o2, o3, o4, o5, hlw2⟩ := box6 hb2; clear hb1))
    all_goals first | (exfalso; omega) | skip
    go_ret
    exact ⟨ret_int HX.out.symm, box_below hb2⟩
  have HE5 := hide (HE2.out.trans (itemsS_in (by omega)))
  clear HE2
  go_enter Tryz.func67, Tryz.ntmps67
  go_wp2_with (first
    | (go_at_call 63; refine (L1.out _ hbox).mono ?_; rintro e w1 ⟨rfl, hb1⟩; obtain ⟨m0, m1, m2, m3, m4, m5, hlw⟩ := box6 hb1; clear hbox)
    | (go_at_call 63; refine (L2.out _ hb1).mono ?_; rintro e w2 ⟨rfl, hb2⟩; obtain ⟨o0, o1, o2, o3, o4, o5, hlw2⟩ := box6 hb2; clear hb1))
  all_goals first | (exfalso; omega) | skip
  go_loopw [5] (fun i wr => ∃ k : Nat, k ≤ its.length ∧ i = .int .i64 k ∧ Hid (∀ j, j < k → itemF its true true true false windowE j = 0) ∧ Below (w.heap.size + 1) (w.alloc (.cells #[.int .i64 op, str src, .slice nA ln nC, .slice oA lo oC, .slice iA its.length iC, .slice cA lc cC] 27)) wr) (fun i _ => its.length - (intOf i).toNat)
  case atStart => exact ⟨0, by omega, rfl, fun j hj => absurd hj (Nat.not_lt_zero _), hb2⟩
  case round =>
    obtain ⟨k, hk, rfl, HZ, hbel⟩ := hrel
    have hbw := box_below hbel
    obtain ⟨m0, m1, m2, m3, m4, m5, hlw⟩ := box6 hbel
    by_cases hlt : k < its.length
    · rcases HI.out.below hbw with e | ⟨g, off, rfl, hg, hc⟩
      · exact absurd hlt (by rw [e]; simp)
      obtain ⟨c0, c1, c2, c3, E, ec, c4, hE⟩ := hc k hlt
      have HIt := hide (fun W (hb : Below wr.heap.size wr W) => ref11_item_any (some ⟨g, off, none⟩) its iC k true true true false W (ItsAt.below (.inr ⟨g, off, rfl, hg, hc⟩) hb) hlt hli (by simp [IsKind]))
      have HV := hide (fun W => nmB_str its[k].col W)
      have HH := hide (fun W hb => HH0.out its[k].name W hb)
      have HT := hide (itemF_at hlt true true true false windowE)
      have HF := hide (fun x (e : itemF its true true true false windowE k = x) (hx : x ≠ 0) => (HE5.out.trans (firstE_hit HZ.out (by rw [e]; exact hx) hlt)).trans e)
      have HN := hide (fun (e : itemF its true true true false windowE k = 0) => step_lt HZ.out e)
      clear hc hE
      generalize itemE its k true true true false = u at *
      generalize its[k] = x at *
      obtain ⟨xn, xf, xc, xm, xe⟩ := x
      simp only at c0 c1 c2 c3 c4 HV HH HT
      generalize xe.length = le at *
      by_cases hu : u = 0
      rotate_left
      · have hub : (u != 0) = true := by simpa using hu
        have HR := hide (HF.out u (by rw [HT.out, if_neg hu]) hu)
        clear HT HF HN hu
        go_wp2_with (first
          | (go_at_call 103; refine (HIt.out _ ((Below.refl _ _).alloc (Nat.le_refl _) _)).mono ?_; rintro e w4 ⟨rfl, hb4⟩; obtain ⟨n0, n1, n2, n3, n4, hlx⟩ := box5 (below_go (Below.refl (wr.heap.size + 1) (wr.alloc _)) (by simp) hb4); have hs4 := below_go (hbel.alloc hlw _) (by simp) hb4; obtain ⟨s0, s1, s2, s3, s4, s5, hls⟩ := box6 hs4))
        all_goals first | (go_ret; exact ⟨ret_int HR.out.symm, box_below hs4⟩) | (exfalso; omega) | (exfalso; simp_all; done)
      subst hu
      have HT2 := hide (HT.out.trans (if_pos rfl))
      clear HT
      obtain ⟨⟨i1, i2, i3⟩, hwb⟩ : ∃ t, t = winB xf := ⟨_, rfl⟩
      have HWB := hide hwb.symm
      have HT3 := hide (show itemF its true true true false windowE k = if i1 = false ∨ (i2 = false ∧ xc ≠ []) ∨ (i3 = false ∧ xm ≠ 0) then 8 else if i2 = true ∧ nmB xc = false then 4 else if i3 = true ∧ (xm < 1 ∨ 4096 < xm) then 1 else 0 from by
        rw [HT2.out]; unfold windowE; simp only [← hwb])
      clear HT2 hwb
      by_cases q1 : i1 = false ∨ (i2 = false ∧ xc ≠ []) ∨ (i3 = false ∧ xm ≠ 0)
      · have HR := hide (HF.out 8 (HT3.out.trans (if_pos q1)) (by decide))
        clear HF HN HT3
        rcases Decidable.em (xc = []) with q4 | q4
        · subst q4
          rcases Decidable.em (xm = 0) with q5 | q5
          · subst q5
            cases i1 <;> cases i2 <;> cases i3
            all_goals first
              | (exfalso; simp at q1; done)
              | skip
            all_goals
              clear q1
              go_wp2_with (first
                | (go_at_call 103; refine (HIt.out _ ((Below.refl _ _).alloc (Nat.le_refl _) _)).mono ?_; rintro e w4 ⟨rfl, hb4⟩; obtain ⟨n0, n1, n2, n3, n4, hlx⟩ := box5 (below_go (Below.refl (wr.heap.size + 1) (wr.alloc _)) (by simp) hb4); have hs4 := below_go (hbel.alloc hlw _) (by simp) hb4; obtain ⟨s0, s1, s2, s3, s4, s5, hls⟩ := box6 hs4)
                | (go_at_call 105; refine (ref11_Windowed_any _ _).mono ?_; rintro e w' ⟨rfl, rfl⟩; rw [HWB.out]))
              all_goals first | (go_ret; exact ⟨ret_int HR.out.symm, box_below hs4⟩) | (exfalso; omega) | (exfalso; simp_all; done)
          · have q6 : (xm != 0) = true := by simpa using q5
            cases i1 <;> cases i2 <;> cases i3
            all_goals first
              | (exfalso; simp at q1; done)
              | skip
            all_goals
              clear q1 q5
              go_wp2_with (first
                | (go_at_call 103; refine (HIt.out _ ((Below.refl _ _).alloc (Nat.le_refl _) _)).mono ?_; rintro e w4 ⟨rfl, hb4⟩; obtain ⟨n0, n1, n2, n3, n4, hlx⟩ := box5 (below_go (Below.refl (wr.heap.size + 1) (wr.alloc _)) (by simp) hb4); have hs4 := below_go (hbel.alloc hlw _) (by simp) hb4; obtain ⟨s0, s1, s2, s3, s4, s5, hls⟩ := box6 hs4)
                | (go_at_call 105; refine (ref11_Windowed_any _ _).mono ?_; rintro e w' ⟨rfl, rfl⟩; rw [HWB.out]))
              all_goals first | (go_ret; exact ⟨ret_int HR.out.symm, box_below hs4⟩) | (exfalso; omega) | (exfalso; simp_all; done)
        · have q7 : xc.isEmpty = false := by cases xc <;> simp_all
          rcases Decidable.em (xm = 0) with q5 | q5
          · subst q5
            cases i1 <;> cases i2 <;> cases i3
            all_goals first
              | (exfalso; simp at q1; done)
              | skip
            all_goals
              clear q1 q4
              go_wp2_with (first
                | (go_at_call 103; refine (HIt.out _ ((Below.refl _ _).alloc (Nat.le_refl _) _)).mono ?_; rintro e w4 ⟨rfl, hb4⟩; obtain ⟨n0, n1, n2, n3, n4, hlx⟩ := box5 (below_go (Below.refl (wr.heap.size + 1) (wr.alloc _)) (by simp) hb4); have hs4 := below_go (hbel.alloc hlw _) (by simp) hb4; obtain ⟨s0, s1, s2, s3, s4, s5, hls⟩ := box6 hs4)
                | (go_at_call 105; refine (ref11_Windowed_any _ _).mono ?_; rintro e w' ⟨rfl, rfl⟩; rw [HWB.out]))
              all_goals first | (go_ret; exact ⟨ret_int HR.out.symm, box_below hs4⟩) | (exfalso; omega) | (exfalso; simp_all; done)
          · have q6 : (xm != 0) = true := by simpa using q5
            cases i1 <;> cases i2 <;> cases i3
            all_goals first
              | (exfalso; simp at q1; done)
              | skip
            all_goals
              clear q1 q4 q5
              go_wp2_with (first
                | (go_at_call 103; refine (HIt.out _ ((Below.refl _ _).alloc (Nat.le_refl _) _)).mono ?_; rintro e w4 ⟨rfl, hb4⟩; obtain ⟨n0, n1, n2, n3, n4, hlx⟩ := box5 (below_go (Below.refl (wr.heap.size + 1) (wr.alloc _)) (by simp) hb4); have hs4 := below_go (hbel.alloc hlw _) (by simp) hb4; obtain ⟨s0, s1, s2, s3, s4, s5, hls⟩ := box6 hs4)
                | (go_at_call 105; refine (ref11_Windowed_any _ _).mono ?_; rintro e w' ⟨rfl, rfl⟩; rw [HWB.out]))
              all_goals first | (go_ret; exact ⟨ret_int HR.out.symm, box_below hs4⟩) | (exfalso; omega) | (exfalso; simp_all; done)
      have HT4 := hide (HT3.out.trans (if_neg q1))
      clear HT3
      obtain rfl : i1 = true := by cases i1 <;> simp_all
      have q8 : i2 = false → xc = [] := fun h => Classical.byContradiction fun hn => q1 (.inr (.inl ⟨h, hn⟩))
      have q9 : i3 = false → xm = 0 := fun h => Classical.byContradiction fun hn => q1 (.inr (.inr ⟨h, hn⟩))
      clear q1
      cases i2
      · obtain rfl := q8 rfl
        cases i3
        · obtain rfl := q9 rfl
          have HR := hide (HN.out (HT4.out.trans (by simp)))
          clear HF HN HT4 q8 q9
          go_wp2_with (first
            | (go_at_call 103; refine (HIt.out _ ((Below.refl _ _).alloc (Nat.le_refl _) _)).mono ?_; rintro e w4 ⟨rfl, hb4⟩; obtain ⟨n0, n1, n2, n3, n4, hlx⟩ := box5 (below_go (Below.refl (wr.heap.size + 1) (wr.alloc _)) (by simp) hb4); have hs4 := below_go (hbel.alloc hlw _) (by simp) hb4; obtain ⟨s0, s1, s2, s3, s4, s5, hls⟩ := box6 hs4)
            | (go_at_call 105; refine (ref11_Windowed_any _ _).mono ?_; rintro e w' ⟨rfl, rfl⟩; rw [HWB.out]))
          all_goals first | exact ⟨⟨k + 1, by omega, by go_num, HR, hs4⟩, by simp [intOf]; omega⟩ | (exfalso; omega) | (exfalso; simp_all; done)
        · clear q8 q9
          exfalso
          have := HWB.out
          unfold winB at this
          repeat' split at this
          all_goals simp at this
      · clear q8
        cases hv : nmB xc
        · rw [hv] at HV HT4
          have HR := hide (HF.out 4 (HT4.out.trans (by simp)) (by decide))
          clear HF HN HT4 hv
          cases i3
          · obtain rfl := q9 rfl
            clear q9
            go_wp2_with (first
              | (go_at_call 103; refine (HIt.out _ ((Below.refl _ _).alloc (Nat.le_refl _) _)).mono ?_; rintro e w4 ⟨rfl, hb4⟩; obtain ⟨n0, n1, n2, n3, n4, hlx⟩ := box5 (below_go (Below.refl (wr.heap.size + 1) (wr.alloc _)) (by simp) hb4); have hs4 := below_go (hbel.alloc hlw _) (by simp) hb4; obtain ⟨s0, s1, s2, s3, s4, s5, hls⟩ := box6 hs4)
              | (go_at_call 105; refine (ref11_Windowed_any _ _).mono ?_; rintro e w' ⟨rfl, rfl⟩; rw [HWB.out])
              | (go_at_call 104; refine (HV.out _).mono ?_; rintro e w5 ⟨rfl, hb5⟩; have hs5 := below_go hs4 (by simp) hb5; obtain ⟨t0, t1, t2, t3, t4, t5, hlt5⟩ := box6 hs5; have hn5 := hb5.cell (p := ⟨wr.heap.size, 3, none⟩) hlx; rw [n3] at hn5))
            all_goals first | (go_ret; exact ⟨ret_int HR.out.symm, box_below hs5⟩) | (exfalso; omega) | (exfalso; simp_all; done)
          · clear q9
            go_wp2_with (first
              | (go_at_call 103; refine (HIt.out _ ((Below.refl _ _).alloc (Nat.le_refl _) _)).mono ?_; rintro e w4 ⟨rfl, hb4⟩; obtain ⟨n0, n1, n2, n3, n4, hlx⟩ := box5 (below_go (Below.refl (wr.heap.size + 1) (wr.alloc _)) (by simp) hb4); have hs4 := below_go (hbel.alloc hlw _) (by simp) hb4; obtain ⟨s0, s1, s2, s3, s4, s5, hls⟩ := box6 hs4)
              | (go_at_call 105; refine (ref11_Windowed_any _ _).mono ?_; rintro e w' ⟨rfl, rfl⟩; rw [HWB.out])
              | (go_at_call 104; refine (HV.out _).mono ?_; rintro e w5 ⟨rfl, hb5⟩; have hs5 := below_go hs4 (by simp) hb5; obtain ⟨t0, t1, t2, t3, t4, t5, hlt5⟩ := box6 hs5; have hn5 := hb5.cell (p := ⟨wr.heap.size, 3, none⟩) hlx; rw [n3] at hn5))
            all_goals first | (go_ret; exact ⟨ret_int HR.out.symm, box_below hs5⟩) | (exfalso; omega) | (exfalso; simp_all; done)
        · rw [hv] at HV HT4
          cases i3
          · obtain rfl := q9 rfl
            have HR := hide (HN.out (HT4.out.trans (by simp)))
            clear HF HN HT4 hv q9
            go_wp2_with (first
              | (go_at_call 103; refine (HIt.out _ ((Below.refl _ _).alloc (Nat.le_refl _) _)).mono ?_; rintro e w4 ⟨rfl, hb4⟩; obtain ⟨n0, n1, n2, n3, n4, hlx⟩ := box5 (below_go (Below.refl (wr.heap.size + 1) (wr.alloc _)) (by simp) hb4); have hs4 := below_go (hbel.alloc hlw _) (by simp) hb4; obtain ⟨s0, s1, s2, s3, s4, s5, hls⟩ := box6 hs4)
              | (go_at_call 105; refine (ref11_Windowed_any _ _).mono ?_; rintro e w' ⟨rfl, rfl⟩; rw [HWB.out])
              | (go_at_call 104; refine (HV.out _).mono ?_; rintro e w5 ⟨rfl, hb5⟩; have hs5 := below_go hs4 (by simp) hb5; obtain ⟨t0, t1, t2, t3, t4, t5, hlt5⟩ := box6 hs5; have hn5 := hb5.cell (p := ⟨wr.heap.size, 3, none⟩) hlx; rw [n3] at hn5))
            all_goals first | exact ⟨⟨k + 1, by omega, by go_num, HR, hs5⟩, by simp [intOf]; omega⟩ | (exfalso; omega) | (exfalso; simp_all; done)
          · clear q9
            by_cases r1 : xm < 1
            · have HR := hide (HF.out 1 (HT4.out.trans (by simp [r1])) (by decide))
              clear HF HN HT4 hv
              go_wp2_with (first
                | (go_at_call 103; refine (HIt.out _ ((Below.refl _ _).alloc (Nat.le_refl _) _)).mono ?_; rintro e w4 ⟨rfl, hb4⟩; obtain ⟨n0, n1, n2, n3, n4, hlx⟩ := box5 (below_go (Below.refl (wr.heap.size + 1) (wr.alloc _)) (by simp) hb4); have hs4 := below_go (hbel.alloc hlw _) (by simp) hb4; obtain ⟨s0, s1, s2, s3, s4, s5, hls⟩ := box6 hs4)
                | (go_at_call 105; refine (ref11_Windowed_any _ _).mono ?_; rintro e w' ⟨rfl, rfl⟩; rw [HWB.out])
                | (go_at_call 104; refine (HV.out _).mono ?_; rintro e w5 ⟨rfl, hb5⟩; have hs5 := below_go hs4 (by simp) hb5; obtain ⟨t0, t1, t2, t3, t4, t5, hlt5⟩ := box6 hs5; have hn5 := hb5.cell (p := ⟨wr.heap.size, 3, none⟩) hlx; rw [n3] at hn5))
              all_goals first | (go_ret; exact ⟨ret_int HR.out.symm, box_below hs5⟩) | (exfalso; omega) | (exfalso; simp_all; done)
            by_cases r2 : 4096 < xm
            · have HR := hide (HF.out 1 (HT4.out.trans (by simp [r2])) (by decide))
              clear HF HN HT4 hv
              go_wp2_with (first
                | (go_at_call 103; refine (HIt.out _ ((Below.refl _ _).alloc (Nat.le_refl _) _)).mono ?_; rintro e w4 ⟨rfl, hb4⟩; obtain ⟨n0, n1, n2, n3, n4, hlx⟩ := box5 (below_go (Below.refl (wr.heap.size + 1) (wr.alloc _)) (by simp) hb4); have hs4 := below_go (hbel.alloc hlw _) (by simp) hb4; obtain ⟨s0, s1, s2, s3, s4, s5, hls⟩ := box6 hs4)
                | (go_at_call 105; refine (ref11_Windowed_any _ _).mono ?_; rintro e w' ⟨rfl, rfl⟩; rw [HWB.out])
                | (go_at_call 104; refine (HV.out _).mono ?_; rintro e w5 ⟨rfl, hb5⟩; have hs5 := below_go hs4 (by simp) hb5; obtain ⟨t0, t1, t2, t3, t4, t5, hlt5⟩ := box6 hs5; have hn5 := hb5.cell (p := ⟨wr.heap.size, 3, none⟩) hlx; rw [n3] at hn5))
              all_goals first | (go_ret; exact ⟨ret_int HR.out.symm, box_below hs5⟩) | (exfalso; omega) | (exfalso; simp_all; done)
            have HR := hide (HN.out (HT4.out.trans (by simp [r1, r2])))
            clear HF HN HT4 hv
            go_wp2_with (first
              | (go_at_call 103; refine (HIt.out _ ((Below.refl _ _).alloc (Nat.le_refl _) _)).mono ?_; rintro e w4 ⟨rfl, hb4⟩; obtain ⟨n0, n1, n2, n3, n4, hlx⟩ := box5 (below_go (Below.refl (wr.heap.size + 1) (wr.alloc _)) (by simp) hb4); have hs4 := below_go (hbel.alloc hlw _) (by simp) hb4; obtain ⟨s0, s1, s2, s3, s4, s5, hls⟩ := box6 hs4)
              | (go_at_call 105; refine (ref11_Windowed_any _ _).mono ?_; rintro e w' ⟨rfl, rfl⟩; rw [HWB.out])
              | (go_at_call 104; refine (HV.out _).mono ?_; rintro e w5 ⟨rfl, hb5⟩; have hs5 := below_go hs4 (by simp) hb5; obtain ⟨t0, t1, t2, t3, t4, t5, hlt5⟩ := box6 hs5; have hn5 := hb5.cell (p := ⟨wr.heap.size, 3, none⟩) hlx; rw [n3] at hn5))
            all_goals first | exact ⟨⟨k + 1, by omega, by go_num, HR, hs5⟩, by simp [intOf]; omega⟩ | (exfalso; omega) | (exfalso; simp_all; done)
    · obtain rfl : k = its.length := by omega
      have HR := hide (HE5.out.trans (firstE_none HZ.out))
      go_wp2
      go_ret
      exact ⟨ret_int HR.out.symm, hbw⟩
end Go.Proofs.YtmbeeefkpgfgmaaGreatDoor
namespace Go.Proofs.YtmbeeefkpgfgmaaGreatDoor
open Go.RowKit
set_option maxRecDepth 100000 in
set_option maxHeartbeats 2000000 in
theorem ref11_ValidateStep_any (s : Stp) (a : Adr) (w : World) (hA : s.At w a) (ho : s.ok) :
    Calls Tryz.prog 16 #[s.agg a] w fun e w' => e = .returned (.int .i64 (stepS s)) ∧ Below w.heap.size w w' := by
  by_cases hlo : s.op < 0
  · have HX := hide (show stepS s = 8 from by unfold stepS; rw [if_pos (.inl hlo)])
    clear hA ho
    go_enter Tryz.func16, Tryz.ntmps16
    go_wp2
    go_ret
    exact ⟨ret_int HX.out.symm, by (repeat (first | exact Below.refl _ _ | assumption | refine Below.drew ?_ | refine below_drewN ?_ _ | refine Below.alloc ?_ (by first | omega | simp <;> omega) _ | refine Below.setCell ?_ (by first | omega | simp <;> omega) _))⟩
  by_cases hhi : 12 < s.op
  · have HX := hide (show stepS s = 8 from by unfold stepS; rw [if_pos (.inr (.inl hhi))])
    clear hA ho
    go_enter Tryz.func16, Tryz.ntmps16
    go_wp2
    go_ret
    exact ⟨ret_int HX.out.symm, by (repeat (first | exact Below.refl _ _ | assumption | refine Below.drew ?_ | refine below_drewN ?_ _ | refine Below.alloc ?_ (by first | omega | simp <;> omega) _ | refine Below.setCell ?_ (by first | omega | simp <;> omega) _))⟩
  have HU := hide (fun W => ref11_unused_any s a W (by omega) (by omega))
  have HS := hide (show stepS s = if unusedB s.op s.src s.names.length s.others.length s.items.length s.cond.length = true then 8 else opS s from by
    unfold stepS
    cases hu : unusedB s.op s.src s.names.length s.others.length s.items.length s.cond.length
    · rw [if_neg (by simp; omega)]; rfl
    · rw [if_pos (by simp)]; rfl)
  cases hu : unusedB s.op s.src s.names.length s.others.length s.items.length s.cond.length
  rotate_left
  · rw [hu] at HU HS
    have HX := hide (HS.out.trans (if_pos rfl))
    clear hA ho HS hu
    go_enter Tryz.func16, Tryz.ntmps16
    go_wp2_with (go_at_call 59; refine (HU.out _).mono ?_; rintro e w1 ⟨rfl, hb1⟩)
    go_ret
    exact ⟨ret_int HX.out.symm, box_below (below_go (Below.refl (w.heap.size + 1) (w.alloc _)) (by simp) hb1)⟩
  rw [hu] at HU HS
  have HX := hide (show stepS s = opS s from HS.out.trans (if_neg (by decide)))
  clear HS hu
  have HA := hide hA
  have HO := hide ho
  clear hA ho
  obtain ⟨op, src, names, others, its, cond⟩ := s
  obtain ⟨nA, nC, oA, oC, iA, iC, cA, cC⟩ := a
  simp only at hlo hhi
  have hop : op = 0 ∨ op = 1 ∨ op = 2 ∨ op = 3 ∨ op = 4 ∨ op = 5 ∨ op = 6 ∨ op = 7 ∨ op = 8 ∨ op = 9 ∨ op = 10 ∨ op = 11 ∨ op = 12 := by omega
  show Calls Tryz.prog 16 #[.agg #[.int .i64 op, str src, .slice nA names.length nC, .slice oA others.length oC, .slice iA its.length iC, .slice cA cond.length cC]] w _
  generalize stepS _ = r at *
  clear hlo hhi
  rcases hop with rfl | rfl | rfl | rfl | rfl | rfl | rfl | rfl | rfl | rfl | rfl | rfl | rfl
  · have HV := hide (show r = fromE src from HX.out.trans (by unfold opS; simp))
    have HC := hide (fun W => qlB_str src W HO.out.src)
    clear HX
    unfold fromE at HV
    cases hq : qlB src
    all_goals
      rw [hq] at HC HV
      clear HA HO hq
      go_enter Tryz.func16, Tryz.ntmps16
      go_wp2_with (first
        | (go_at_call 59; refine (HU.out _).mono ?_; rintro e w1 ⟨rfl, hb1⟩; have hcur := below_go (Below.refl (w.heap.size + 1) (w.alloc _)) (by simp) hb1; obtain ⟨m0, m1, m2, m3, m4, m5, hlw⟩ := box6 hcur)
        | (go_at_call 60; refine (HC.out _).mono ?_; rintro e w2 ⟨rfl, hb2⟩))
      go_ret
      exact ⟨ret_int HV.out.symm, bel2 hb2 (box_below hcur)⟩
  · have HV := hide (show r = validE cond from HX.out.trans (by unfold opS; simp))
    have HC := hide (fun W (hW : Below w.heap.size w W) => ref8_Validate_any cA cond cC W (HA.out.cond.below hW) HO.out.cond HO.out.condN)
    clear HX HA HO
    go_enter Tryz.func16, Tryz.ntmps16
    go_wp2_with (first
      | (go_at_call 59; refine (HU.out _).mono ?_; rintro e w1 ⟨rfl, hb1⟩; have hcur := below_go (Below.refl (w.heap.size + 1) (w.alloc _)) (by simp) hb1; obtain ⟨m0, m1, m2, m3, m4, m5, hlw⟩ := box6 hcur)
      | (go_at_call 61; refine (HC.out _ (box_below hcur)).mono ?_; rintro e w2 ⟨rfl, hb2⟩))
    go_ret
    exact ⟨ret_int HV.out.symm, bel2 hb2 (box_below hcur)⟩
  · have HV := hide (show r = itemsS its 1 false false false true (fun x => validE x.expr) from HX.out.trans (by unfold opS; simp))
    have HC := hide (fun W (hW : Below w.heap.size w W) => ref11_derive_any _ _ W (HA.out.below hW) HO.out)
    clear HX HA HO
    go_enter Tryz.func16, Tryz.ntmps16
    go_wp2_with (first
      | (go_at_call 59; refine (HU.out _).mono ?_; rintro e w1 ⟨rfl, hb1⟩; have hcur := below_go (Below.refl (w.heap.size + 1) (w.alloc _)) (by simp) hb1; obtain ⟨m0, m1, m2, m3, m4, m5, hlw⟩ := box6 hcur)
      | (go_at_call 62; refine (HC.out _ (box_below hcur)).mono ?_; rintro e w2 ⟨rfl, hb2⟩))
    go_ret
    exact ⟨ret_int HV.out.symm, bel2 hb2 (box_below hcur)⟩
  · have HV := hide (show r = listS names 1 from HX.out.trans (by unfold opS; simp))
    have HC := hide (fun W (hW : Below w.heap.size w W) => ref11_list_any nA names nC 1 W (HA.out.names.below hW) HO.out.names (Nat.le_refl _) HA.out.cn)
    clear HX HA HO
    go_enter Tryz.func16, Tryz.ntmps16
    go_wp2_with (first
      | (go_at_call 59; refine (HU.out _).mono ?_; rintro e w1 ⟨rfl, hb1⟩; have hcur := below_go (Below.refl (w.heap.size + 1) (w.alloc _)) (by simp) hb1; obtain ⟨m0, m1, m2, m3, m4, m5, hlw⟩ := box6 hcur)
      | (go_at_call 63; refine (HC.out _ (box_below hcur)).mono ?_; rintro e w2 ⟨rfl, hb2⟩))
    go_ret
    exact ⟨ret_int HV.out.symm, bel2 hb2 (box_below hcur)⟩
  · have HV := hide (show r = joinS ⟨4, src, names, others, its, cond⟩ from HX.out.trans (by unfold opS; simp))
    have HC := hide (fun W (hW : Below w.heap.size w W) => ref11_join_any _ _ W (HA.out.below hW) HO.out)
    clear HX HA HO
    go_enter Tryz.func16, Tryz.ntmps16
    go_wp2_with (first
      | (go_at_call 59; refine (HU.out _).mono ?_; rintro e w1 ⟨rfl, hb1⟩; have hcur := below_go (Below.refl (w.heap.size + 1) (w.alloc _)) (by simp) hb1; obtain ⟨m0, m1, m2, m3, m4, m5, hlw⟩ := box6 hcur)
      | (go_at_call 64; refine (HC.out _ (box_below hcur)).mono ?_; rintro e w2 ⟨rfl, hb2⟩))
    go_ret
    exact ⟨ret_int HV.out.symm, bel2 hb2 (box_below hcur)⟩
  · have HV := hide (show r = joinS ⟨5, src, names, others, its, cond⟩ from HX.out.trans (by unfold opS; simp))
    have HC := hide (fun W (hW : Below w.heap.size w W) => ref11_join_any _ _ W (HA.out.below hW) HO.out)
    clear HX HA HO
    go_enter Tryz.func16, Tryz.ntmps16
    go_wp2_with (first
      | (go_at_call 59; refine (HU.out _).mono ?_; rintro e w1 ⟨rfl, hb1⟩; have hcur := below_go (Below.refl (w.heap.size + 1) (w.alloc _)) (by simp) hb1; obtain ⟨m0, m1, m2, m3, m4, m5, hlw⟩ := box6 hcur)
      | (go_at_call 64; refine (HC.out _ (box_below hcur)).mono ?_; rintro e w2 ⟨rfl, hb2⟩))
    go_ret
    exact ⟨ret_int HV.out.symm, bel2 hb2 (box_below hcur)⟩
  · have HV := hide (show r = joinS ⟨6, src, names, others, its, cond⟩ from HX.out.trans (by unfold opS; simp))
    have HC := hide (fun W (hW : Below w.heap.size w W) => ref11_join_any _ _ W (HA.out.below hW) HO.out)
    clear HX HA HO
    go_enter Tryz.func16, Tryz.ntmps16
    go_wp2_with (first
      | (go_at_call 59; refine (HU.out _).mono ?_; rintro e w1 ⟨rfl, hb1⟩; have hcur := below_go (Below.refl (w.heap.size + 1) (w.alloc _)) (by simp) hb1; obtain ⟨m0, m1, m2, m3, m4, m5, hlw⟩ := box6 hcur)
      | (go_at_call 64; refine (HC.out _ (box_below hcur)).mono ?_; rintro e w2 ⟨rfl, hb2⟩))
    go_ret
    exact ⟨ret_int HV.out.symm, bel2 hb2 (box_below hcur)⟩
  · have HV := hide (show r = joinS ⟨7, src, names, others, its, cond⟩ from HX.out.trans (by unfold opS; simp))
    have HC := hide (fun W (hW : Below w.heap.size w W) => ref11_join_any _ _ W (HA.out.below hW) HO.out)
    clear HX HA HO
    go_enter Tryz.func16, Tryz.ntmps16
    go_wp2_with (first
      | (go_at_call 59; refine (HU.out _).mono ?_; rintro e w1 ⟨rfl, hb1⟩; have hcur := below_go (Below.refl (w.heap.size + 1) (w.alloc _)) (by simp) hb1; obtain ⟨m0, m1, m2, m3, m4, m5, hlw⟩ := box6 hcur)
      | (go_at_call 64; refine (HC.out _ (box_below hcur)).mono ?_; rintro e w2 ⟨rfl, hb2⟩))
    go_ret
    exact ⟨ret_int HV.out.symm, bel2 hb2 (box_below hcur)⟩
  · have HV := hide (show r = readE src from HX.out.trans (by unfold opS; simp))
    have HC := hide (fun W (hW : Below w.heap.size w W) => ref11_source_any src W HO.out.src)
    clear HX HA HO
    go_enter Tryz.func16, Tryz.ntmps16
    go_wp2_with (first
      | (go_at_call 59; refine (HU.out _).mono ?_; rintro e w1 ⟨rfl, hb1⟩; have hcur := below_go (Below.refl (w.heap.size + 1) (w.alloc _)) (by simp) hb1; obtain ⟨m0, m1, m2, m3, m4, m5, hlw⟩ := box6 hcur)
      | (go_at_call 65; refine (HC.out _ (box_below hcur)).mono ?_; rintro e w2 ⟨rfl, hb2⟩))
    go_ret
    exact ⟨ret_int HV.out.symm, bel2 hb2 (box_below hcur)⟩
  · have HV := hide (show r = readE src from HX.out.trans (by unfold opS; simp))
    have HC := hide (fun W (hW : Below w.heap.size w W) => ref11_source_any src W HO.out.src)
    clear HX HA HO
    go_enter Tryz.func16, Tryz.ntmps16
    go_wp2_with (first
      | (go_at_call 59; refine (HU.out _).mono ?_; rintro e w1 ⟨rfl, hb1⟩; have hcur := below_go (Below.refl (w.heap.size + 1) (w.alloc _)) (by simp) hb1; obtain ⟨m0, m1, m2, m3, m4, m5, hlw⟩ := box6 hcur)
      | (go_at_call 65; refine (HC.out _ (box_below hcur)).mono ?_; rintro e w2 ⟨rfl, hb2⟩))
    go_ret
    exact ⟨ret_int HV.out.symm, bel2 hb2 (box_below hcur)⟩
  · have HV := hide (show r = 0 from HX.out.trans (by unfold opS; simp))
    clear HX HA HO
    go_enter Tryz.func16, Tryz.ntmps16
    go_wp2_with (go_at_call 59; refine (HU.out _).mono ?_; rintro e w1 ⟨rfl, hb1⟩; have hcur := below_go (Below.refl (w.heap.size + 1) (w.alloc _)) (by simp) hb1; obtain ⟨m0, m1, m2, m3, m4, m5, hlw⟩ := box6 hcur)
    go_ret
    exact ⟨ret_int HV.out.symm, box_below hcur⟩
  · have HV := hide (show r = groupS ⟨11, src, names, others, its, cond⟩ from HX.out.trans (by unfold opS; simp))
    have HC := hide (fun W (hW : Below w.heap.size w W) => ref11_group_any _ _ W (HA.out.below hW) HO.out)
    clear HX HA HO
    go_enter Tryz.func16, Tryz.ntmps16
    go_wp2_with (first
      | (go_at_call 59; refine (HU.out _).mono ?_; rintro e w1 ⟨rfl, hb1⟩; have hcur := below_go (Below.refl (w.heap.size + 1) (w.alloc _)) (by simp) hb1; obtain ⟨m0, m1, m2, m3, m4, m5, hlw⟩ := box6 hcur)
      | (go_at_call 66; refine (HC.out _ (box_below hcur)).mono ?_; rintro e w2 ⟨rfl, hb2⟩))
    go_ret
    exact ⟨ret_int HV.out.symm, bel2 hb2 (box_below hcur)⟩
  · have HV := hide (show r = windowS ⟨12, src, names, others, its, cond⟩ from HX.out.trans (by unfold opS; simp))
    have HC := hide (fun W (hW : Below w.heap.size w W) => ref11_window_any _ _ W (HA.out.below hW) HO.out)
    clear HX HA HO
    go_enter Tryz.func16, Tryz.ntmps16
    go_wp2_with (first
      | (go_at_call 59; refine (HU.out _).mono ?_; rintro e w1 ⟨rfl, hb1⟩; have hcur := below_go (Below.refl (w.heap.size + 1) (w.alloc _)) (by simp) hb1; obtain ⟨m0, m1, m2, m3, m4, m5, hlw⟩ := box6 hcur)
      | (go_at_call 67; refine (HC.out _ (box_below hcur)).mono ?_; rintro e w2 ⟨rfl, hb2⟩))
    go_ret
    exact ⟨ret_int HV.out.symm, bel2 hb2 (box_below hcur)⟩
def queryF (ss : List Stp) (i : Nat) : Int := if stepS (ss.getD i stp0) = 0 then (if ((ss.getD i stp0).op = 0 ↔ i = 0) then 0 else 8) else stepS (ss.getD i stp0)
theorem queryF_at {ss : List Stp} {i : Nat} (h : i < ss.length) : queryF ss i = if stepS ss[i] = 0 then (if (ss[i].op = 0 ↔ i = 0) then 0 else 8) else stepS ss[i] := by
  unfold queryF; rw [List.getD_eq_getElem?_getD, List.getElem?_eq_getElem h]; rfl
theorem queryS_in {ss : List Stp} (h : ¬ (ss.length < 1 ∨ 16 < ss.length)) : queryS ss = firstE (queryF ss) ss.length := by
  unfold queryS; rw [if_neg h]; rfl
def StsOk (ss : List Stp) : Prop := ∀ s ∈ ss, s.ok
end Go.Proofs.YtmbeeefkpgfgmaaGreatDoor
