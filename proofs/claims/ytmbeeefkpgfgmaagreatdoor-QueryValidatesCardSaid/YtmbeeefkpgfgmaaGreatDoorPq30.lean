/- Contract, told: ref15.added. -/
import Derived.Test.YtmbeeefkpgfgmaaGreatDoorPq16
import Derived.Deep.AppendLies
import Derived.Deep.RegionHeld3
import Derived.RegionTactic
import Derived.ChangeAlike
import Derived.BigRegion
import Derived.Test.YtmbeeefkpgfgmaaGreatDoorPq07
set_option linter.unusedVariables false
set_option linter.unusedSimpArgs false
namespace Go.Proofs.YtmbeeefkpgfgmaaGreatDoor
open Go.RowKit
theorem addE_at {cs right : List Col} {its : List It} {k : Nat} (h : k < its.length) : addE cs right its k = if idxS right its[k].col < 0 then 5 else if 0 ≤ idxS cs its[k].name then 6 else 0 := by
  unfold addE; rw [List.getD_eq_getElem?_getD, List.getElem?_eq_getElem h]; rfl
theorem addC_at {right : List Col} {op : Int} {its : List It} {k : Nat} (h : k < its.length) : addC right op its k = ⟨its[k].name, (colAt right (idxS right its[k].col)).kind, (colAt right (idxS right its[k].col)).null || op == 5⟩ := by
  unfold addC; rw [List.getD_eq_getElem?_getD, List.getElem?_eq_getElem h]; rfl
theorem colAt_nat {cs : List Col} {i : Int} {m : Nat} (e : i = m) (h : m < cs.length) : colAt cs i = cs[m] := by
  subst e
  unfold colAt
  rw [if_pos (by omega), Int.toNat_natCast, List.getD_eq_getElem?_getD, List.getElem?_eq_getElem h]
  rfl
set_option maxRecDepth 100000 in
set_option maxHeartbeats 2000000 in
theorem ref15_added_any (C : Option Addr) (cs : List Col) (cc : Nat) (s : Stp) (a : Adr) (R : Option Addr) (right : List Col) (rc : Nat) (w : World) (hF : Firm (fun W => ColsAt W C cs) w) (hg : ColG cs) (hR : ColsAt w R right) (hrl : right.length ≤ 1000) (hA : s.At w a) (ho : s.ok) (hno : s.names.length = s.others.length) (h12 : s.items.length ≤ 12) :
    Calls Tryz.prog 152 #[.slice C cs.length cc, s.agg a, .slice R right.length rc] w fun e w' => ColR (addS5 cs s right) w' e ∧ Below w.heap.size w w' := by
  have HI := hide hA.items
  have HC := hide hF.now
  have HRt := hide hR
  have hcl := hg.le
  have hcp := hg.pos
  have HX := hide (show addS5 cs s right = if joinX cs s right ≠ 0 then ([], joinX cs s right) else growS cs (addE cs right s.items) (addC right s.op s.items) s.items.length from rfl)
  have HJ := hide (fun W (hb : Below w.heap.size w W) => show Calls Tryz.prog 153 #[.slice C cs.length cc, .agg #[.int .i64 s.op, str s.src, .slice a.nA s.names.length a.nC, .slice a.oA s.others.length a.oC, .slice a.iA s.items.length a.iC, .slice a.cA s.cond.length a.cC], .slice R right.length rc] W (fun e w' => e = .returned (.int .i64 (joinX cs s right)) ∧ Below W.heap.size W w') from ref15_join_any C cs cc s a R right rc W (HC.out.below hb) (by omega) (HRt.out.below hb) hrl (hA.below hb) ho hno)
  clear hF hg hA ho hR hno
  generalize addS5 cs s right = r at *
  generalize joinX cs s right = jx at *
  obtain ⟨op, src, names, others, its, cond⟩ := s
  obtain ⟨nA, nC, oA, oC, iA, iC, cA, cC⟩ := a
  simp only at HI HX h12 HJ
  show Calls Tryz.prog 152 #[_, .agg #[.int .i64 op, str src, .slice nA names.length nC, .slice oA others.length oC, .slice iA its.length iC, .slice cA cond.length cC], _] w _
  generalize names.length = ln at *
  generalize others.length = lo at *
  generalize cond.length = lc at *
  have hbox : Below (w.heap.size + 1) (w.alloc (.cells #[.int .i64 op, str src, .slice nA ln nC, .slice oA lo oC, .slice iA its.length iC, .slice cA lc cC] 27)) (w.alloc (.cells #[.int .i64 op, str src, .slice nA ln nC, .slice oA lo oC, .slice iA its.length iC, .slice cA lc cC] 27)) := Below.refl _ _
  by_cases h1 : jx = 0
  rotate_left
  · have hb : (jx != 0) = true := by simpa using h1
    have HE := hide (HX.out.trans (if_pos h1))
    clear HX h1
    go_enter Tryz.func152, Tryz.ntmps152
    go_wp2_with (go_at_call 153; refine (HJ.out _ (box_below hbox)).mono ?_; rintro e w1 ⟨rfl, hb1⟩; have hbx := below_go hbox (by simp) hb1; clear hbox)
    refine bodyPost_ret (v := .tuple #[.slice none 0 0, .int .i64 jx]) (by simp [results, Tryz.results152, go_sem]) rfl ⟨⟨none, 0, by rw [HE.out]; rfl, by rw [HE.out]; exact Firm.nil _ _⟩, box_below hbx⟩
  subst h1
  have HX2 := hide (HX.out.trans (if_neg (by simp)))
  clear HX
  obtain ⟨i0, hi, hz0, hz1, hz2⟩ := info_parts Tryz.info_col
  rcases HC.out with e | ⟨g, off, rfl, hgs, hcc⟩
  · exact absurd hcp (by rw [e]; simp)
  have hnews := hide (fun W (hb : Below w.heap.size w W) => coCells_get (w := W) (g := g) (off := off) (cs := cs) (fun i hi => by
    obtain ⟨q0, q1, q2⟩ := hcc i hi
    exact ⟨(hb.cell (p := ⟨g, _, none⟩) hgs).trans q0, (hb.cell (p := ⟨g, _, none⟩) hgs).trans q1, (hb.cell (p := ⟨g, _, none⟩) hgs).trans q2⟩))
  clear hcc
  obtain ⟨ob, hob⟩ : ∃ ob, (op == 5) = ob := ⟨_, rfl⟩
  go_enter Tryz.func152, Tryz.ntmps152
  go_wp2_with (first
    | (go_at_call 153; refine (HJ.out _ (box_below hbox)).mono ?_; rintro e w1 ⟨rfl, hb1⟩; have hby := below_go hbox (by simp) hb1; have hwz := hby.size; rw [World.size_alloc] at hwz; clear hbox)
    | (at_builtin; refine wpList_append_own _ rfl _ _ 64 rfl (w.heap.size + 1) 105 i0 _ 3 32 Tryz.underlying64 hi hz0 hz1 hz2 rfl (by decide) (.slice none 0 0) 0 [] rfl (own_nil _ _ _ _) ⟨g, off, none⟩ cs.length cc (coCells cs) rfl (coCells_len cs) (hnews.out _ (box_below hby)) (coCells_one cs) (by unfold maxLen; omega) (by omega) hwz ?_; intro v0 w0 hown0 hgrow0 _))
  obtain ⟨A0, c0, hv0⟩ := own_form hown0
  rw [Nat.zero_add] at hv0
  subst hv0
  have hbel0 := hby.grown hgrow0 hwz (fun k hk => by cases hk)
  simp only [Nat.zero_add, List.nil_append] at hown0
  clear hnews hgrow0 HJ hb1 hby hwz
  go_wp2
  go_loopw [9, 10] (fun s i wr => ∃ (k : Nat) (A' : Option Addr) (c' : Nat), s = .slice A' (cs.length + k) c' ∧ i = .int .i64 k ∧ k ≤ its.length ∧ Hid (∀ j, j < k → addE cs right its j = 0) ∧
      wr.ownsRow (w.heap.size + 1) 105 3 (.slice A' (cs.length + k) c') (cs.length + k) (coCells (cs ++ (List.range k).map (addC right op its))) ∧ Below (w.heap.size + 1) (w.alloc (.cells #[.int .i64 op, str src, .slice nA ln nC, .slice oA lo oC, .slice iA its.length iC, .slice cA lc cC] 27)) wr) (fun _ i _ => its.length - (intOf i).toNat)
  case atStart => exact ⟨0, A0, c0, by simp, rfl, by omega, fun j hj => absurd hj (Nat.not_lt_zero _), by simpa using hown0, hbel0⟩
  case round =>
    clear hown0 hbel0
    obtain ⟨k, A', c', rfl, rfl, hk, HZr, hown, hbel⟩ := hrel
    have hbw := box_below hbel
    have hsz := hbel.size
    have hsz' : w.heap.size + 1 ≤ wr.heap.size := by simpa using hsz
    obtain ⟨m0, m1, m2, m3, m4, m5, hlw⟩ := box6 hbel
    by_cases hlt : k < its.length
    · rcases HI.out.below hbw with e | ⟨g1, o1, rfl, hg1, hc1⟩
      · exact absurd hlt (by rw [e]; simp)
      obtain ⟨t0, t1, t2, t3, E, ec, t4, hE⟩ := hc1 k hlt
      have HIr := hide (fun W (hb : Below w.heap.size w W) => show Calls Tryz.prog 222 #[.slice R right.length rc, str its[k].col] W (fun e w' => e = .returned (.int .i64 (idxS right its[k].col)) ∧ W = w') from ref5_Index_s _ right rc ⟨its[k].col.toArray⟩ W (HRt.out.below hb) (by omega))
      have HIx := hide (fun W (hb : Below w.heap.size w W) => show Calls Tryz.prog 222 #[.slice (some ⟨g, off, none⟩) cs.length cc, str its[k].name] W (fun e w' => e = .returned (.int .i64 (idxS cs its[k].name)) ∧ W = w') from ref5_Index_s _ cs cc ⟨its[k].name.toArray⟩ W (HC.out.below hb) (by omega))
      have HT := hide (addE_at (cs := cs) (right := right) hlt)
      have HD := hide (addC_at (right := right) (op := op) hlt)
      have HF := hide (fun x (e : addE cs right its k = x) (hx : x ≠ 0) => HX2.out.trans (grow_err (g := addC right op its) hlt HZr.out e hx))
      have HN := hide (fun (e : addE cs right its k = 0) => step_lt HZr.out e)
      have HG := hide (grow_next cs (addC right op its) k)
      have hlr := idxS_lt right its[k].col
      have HAt := hide (fun (m : Nat) (e9 : idxS right its[k].col = (m : Int)) (h9 : m < right.length) => colAt_nat e9 h9)
      clear hc1 hE
      generalize idxS right its[k].col = ir at *
      generalize idxS cs its[k].name = ix at *
      generalize its[k].expr.length = le at *
      generalize its[k] = x at *
      have hb0 := hbw
      by_cases hir : ir < 0
      · have HR := hide (HF.out 5 (HT.out.trans (if_pos hir)) (by decide))
        clear HF HN HT HD HG HAt
        go_wp2_with (go_at_call 222; refine (HIr.out _ hb0).mono ?_; rintro e w' ⟨rfl, rfl⟩; clear hb0)
        refine bodyPost_ret (v := .tuple #[.slice none 0 0, .int .i64 5]) (by simp [results, Tryz.results152, go_sem]) rfl ⟨⟨none, 0, by rw [HR.out]; rfl, by rw [HR.out]; exact Firm.nil _ _⟩, hbw⟩
      have HT2 := hide (HT.out.trans (if_neg hir))
      clear HT
      by_cases hix : 0 ≤ ix
      · have HR := hide (HF.out 6 (HT2.out.trans (if_pos hix)) (by decide))
        clear HF HN HT2 HD HG HAt
        go_wp2_with (first
          | (go_at_call 222; refine (HIr.out _ hb0).mono ?_; rintro e w' ⟨rfl, rfl⟩; clear hb0)
          | (go_at_call 222; refine (HIx.out _ hbw).mono ?_; rintro e w' ⟨rfl, rfl⟩))
        refine bodyPost_ret (v := .tuple #[.slice none 0 0, .int .i64 6]) (by simp [results, Tryz.results152, go_sem]) rfl ⟨⟨none, 0, by rw [HR.out]; rfl, by rw [HR.out]; exact Firm.nil _ _⟩, hbw⟩
      · have HR := hide (HN.out (HT2.out.trans (if_neg hix)))
        obtain ⟨m, hm⟩ : ∃ m : Nat, ir = m := ⟨ir.toNat, by omega⟩
        subst hm
        have hml : m < right.length := by omega
        rw [HAt.out m rfl hml] at HD
        rcases HRt.out.below hbw with e | ⟨gr, or, rfl, hgr, hcr⟩
        · exact absurd hml (by rw [e]; simp)
        obtain ⟨r0, r1, r2⟩ := hcr m hml
        have b1 : (0 : Int) ≤ (m : Int) ∧ (m : Int) < (right.length : Int) := by omega
        rw [HD.out, hob] at HG
        have HOwn := hide hown
        have HLt := hide (fun j hj => (hown.lt j hj).1)
        clear HF HN HT2 HD hown HAt hcr
        generalize right[m] = y at *
        obtain ⟨yn, yk, yb⟩ := y
        simp only at HG r0 r1 r2
        go_wp2_with (first
          | (go_at_call 222; refine (HIr.out _ hb0).mono ?_; rintro e w' ⟨rfl, rfl⟩; clear hb0)
          | (go_at_call 222; refine (HIx.out _ hbw).mono ?_; rintro e w' ⟨rfl, rfl⟩))
        have hd : Below wr.heap.size wr wr.drew := below_drewN (Below.refl _ _) 1
        have hbd := below_drewN hbel 1
        have own1 := own_below HOwn.out hd
        have hz9 : w.heap.size + 1 ≤ wr.drew.heap.size := hsz'
        have hg1w : g1 < w.heap.size := by
          rcases HI.out with e | ⟨g', o', h', hgw, _⟩
          · exact absurd hlt (by rw [e]; simp)
          · injection h' with h'
            injection h' with e1 e2
            subst e1
            exact hgw
        have hgrw : gr < w.heap.size := by
          rcases HRt.out with e | ⟨g', o', h', hgw, _⟩
          · exact absurd hml (by rw [e]; simp)
          · injection h' with h'
            injection h' with e1 e2
            subst e1
            exact hgw
        have hag : ∀ z, z < w.heap.size + 1 → (Value.slice A' (cs.length + k) c').ownBlock ≠ some z := fun z hz e => by have := HLt.out z e; omega
        have hagB := Ne.symm (hag w.heap.size (by omega))
        have hagI := Ne.symm (hag g1 (by omega))
        have hagR := Ne.symm (hag gr (by omega))
        clear hd HZr t1 t3 t4 m1 m2 m3 m5 r0 HI HRt HC HIr HIx hag
        cases yb
        · first | (go_region_held3 (fun w' => w'.cell? ⟨w.heap.size, 0, none⟩ = some (.int .i64 op) ∧ w'.cell? ⟨w.heap.size, 4, none⟩ = some (.slice (some ⟨g1, o1, none⟩) its.length iC) ∧ w'.cell? ⟨g1, o1 + k * 5, none⟩ = some (str x.name) ∧ w'.cell? ⟨gr, or + m * 3 + 1, none⟩ = some (.int .i64 yk) ∧ w'.cell? ⟨gr, or + m * 3 + 2, none⟩ = some (.bool false))
            (first
              | go_keep
              | (go_split_ands
                 refine ⟨?_, ?_, ?_, ?_, ?_⟩
                 · rw [hgrow.cell_far ⟨w.heap.size, 0, none⟩ (by simp; omega) hagB]; assumption
                 · rw [hgrow.cell_far ⟨w.heap.size, 4, none⟩ (by simp; omega) hagB]; assumption
                 · rw [hgrow.cell_far ⟨g1, o1 + k * 5, none⟩ (by simp; omega) hagI]; assumption
                 · rw [hgrow.cell_far ⟨gr, or + m * 3 + 1, none⟩ (by simp; omega) hagR]; assumption
                 · rw [hgrow.cell_far ⟨gr, or + m * 3 + 2, none⟩ (by simp; omega) hagR]; assumption))
            ((refine step_append_lies _ (by rfl) _ _ _ (by rfl) (w.heap.size + 1) 105 i0 _ 3 32 Tryz.underlying64 hi hz0 hz1 hz2 rfl (by omega) _ _ _ (by rfl) (own1.alloc _) ⟨wr.heap.size, 0, none⟩ 1 1 [str x.name, .int .i64 yk, .bool ob] (by rfl) (by rfl) (by exact cells_3 (heap_alloc_new _ _)) (by simp [Value.oneCell']) (by omega) (by unfold maxLen; omega) (by omega) (by simp; omega) (wr.heap.size + 1) (by simp) ?_; intro gg c3 w3 hown3 hgrow hat hlt9))) | fail
          all_goals
            have hb3 := (hbd.alloc hz9 (.cells #[str x.name, .int .i64 yk, .bool ob] 105)).grown hgrow (by simp; omega) (fun j hj => HLt.out j hj)
            have HO3 := hide (show w3.ownsRow (w.heap.size + 1) 105 3 (.slice (some ⟨gg, 0, none⟩) (cs.length + (k + 1)) c3) (cs.length + (k + 1)) (coCells (cs ++ (List.range (k + 1)).map (addC right op its))) from by rw [HG.out]; exact hown3)
            clear hown3 hgrow own1 hbd
            go_wp2
            exact ⟨⟨k + 1, _, c3, rfl, by go_num, by omega, HR, HO3.out, hb3⟩, by simp [intOf]; omega⟩
        · refine wp_region_held_drew (S := (fun w' => w'.cell? ⟨w.heap.size, 0, none⟩ = some (.int .i64 op) ∧ w'.cell? ⟨w.heap.size, 4, none⟩ = some (.slice (some ⟨g1, o1, none⟩) its.length iC) ∧ w'.cell? ⟨g1, o1 + k * 5, none⟩ = some (str x.name) ∧ w'.cell? ⟨gr, or + m * 3 + 1, none⟩ = some (.int .i64 yk) ∧ w'.cell? ⟨gr, or + m * 3 + 2, none⟩ = some (.bool true))) (by kernel_rfl) (by (try dsimp only); go_keep) (fun hHeld => ?_)
          refine zT 0 ?_; refine zT 1 ?_; refine zT 2 ?_; refine zT 3 ?_; refine zT 4 ?_; refine zT 5 ?_; refine zT 6 ?_; refine zT 7 ?_; refine zT 8 ?_; refine zT 9 ?_; refine zT 10 ?_; refine zT 11 ?_; refine zT 12 ?_; refine zT 13 ?_; refine zT 14 ?_; refine zT 15 ?_; refine zT 16 ?_; refine zT 17 ?_; refine zK 18 ?_; refine zK 19 ?_; refine zK 20 ?_; refine zT 21 ?_; refine zT 22 ?_
          refine zR 23 (fun K hK => ?_)
          go_simp
          refine hK.out _ _ (by (try dsimp only); go_keep) (fun hHeld => ?_)
          clear hK K
          try simp only [Act.put, List.setIfInBounds_toArray, List.set_cons_zero, List.set_cons_succ]
          refine zR 24 (fun K hK => ?_)
          refine step_append_lies _ (by rfl) _ _ _ (by rfl) (w.heap.size + 1) 105 i0 _ 3 32 Tryz.underlying64 hi hz0 hz1 hz2 rfl (by omega) _ _ _ (by rfl) (own1.alloc _) ⟨wr.heap.size, 0, none⟩ 1 1 [str x.name, .int .i64 yk, .bool true] (by rfl) (by rfl) (by exact cells_3 (heap_alloc_new _ _)) (by simp [Value.oneCell']) (by omega) (by unfold maxLen; omega) (by omega) (by simp; omega) (wr.heap.size + 1) (by simp) ?_; intro gg c3 w3 hown3 hgrow hat hlt9
          refine hK.out _ _ (by (try dsimp only); (go_split_ands; refine ⟨?_, ?_, ?_, ?_, ?_⟩; (rw [hgrow.cell_far ⟨w.heap.size, 0, none⟩ (by simp; omega) hagB]; assumption); (rw [hgrow.cell_far ⟨w.heap.size, 4, none⟩ (by simp; omega) hagB]; assumption); (rw [hgrow.cell_far ⟨g1, o1 + k * 5, none⟩ (by simp; omega) hagI]; assumption); (rw [hgrow.cell_far ⟨gr, or + m * 3 + 1, none⟩ (by simp; omega) hagR]; assumption); (rw [hgrow.cell_far ⟨gr, or + m * 3 + 2, none⟩ (by simp; omega) hagR]; assumption))) (fun hHeld => ?_)
          clear hK K
          try simp only [Act.put, List.setIfInBounds_toArray, List.set_cons_zero, List.set_cons_succ]
          refine zR 25 (fun K hK => ?_)
          go_simp
          refine zB hK (by (try dsimp only); assumption) (fun hHeld => ?_)
          clear hK K
          refine wpAnyH_done (by kernel_rfl) ?_ _
          have hb3 := (hbd.alloc hz9 (.cells #[str x.name, .int .i64 yk, .bool true] 105)).grown hgrow (by simp; omega) (fun j hj => HLt.out j hj)
          have HO3 := hide (show w3.ownsRow (w.heap.size + 1) 105 3 (.slice (some ⟨gg, 0, none⟩) (cs.length + (k + 1)) c3) (cs.length + (k + 1)) (coCells (cs ++ (List.range (k + 1)).map (addC right op its))) from by rw [HG.out]; exact hown3)
          clear hown3 hgrow own1 hbd
          go_wp2
          exact ⟨⟨k + 1, _, c3, rfl, by go_num, by omega, HR, HO3.out, hb3⟩, by simp [intOf]; omega⟩
    · obtain rfl : k = its.length := by omega
      have HE := hide (HX2.out.trans (grow_all HZr.out))
      have hlen : (cs ++ (List.range its.length).map (addC right op its)).length = cs.length + its.length := by simp
      rw [← hlen] at hown
      have HFm := hide (fun W (h : wr = W) => h ▸ Firm.cols hown)
      have HLn := hide hlen
      clear hlen hown
      by_cases hbig : 12 < cs.length + its.length
      · have HM := hide (show r = ([], 2) from HE.out.trans (by unfold manyS; rw [if_pos (by rw [HLn.out]; exact hbig)]))
        clear HE HLn
        go_wp2_with (go_at_call 225; refine (ref15_many_any _ _ _ _ (by omega)).mono ?_; rintro e w1 ⟨h9, rfl⟩; rw [if_pos hbig] at h9; subst h9)
        refine bodyPost_ret (v := .tuple #[.slice none 0 0, .int .i64 2]) (by simp [results, Tryz.results152, go_sem]) rfl ⟨⟨none, 0, by rw [HM.out]; rfl, by rw [HM.out]; exact Firm.nil _ _⟩, hbw⟩
      · have HM := hide (show r = (cs ++ (List.range its.length).map (addC right op its), 0) from HE.out.trans (by unfold manyS; rw [if_neg (by rw [HLn.out]; exact hbig)]))
        go_wp2_with (go_at_call 225; refine (ref15_many_any _ _ _ _ (by omega)).mono ?_; rintro e w1 ⟨h9, rfl⟩; rw [if_neg hbig] at h9; subst h9)
        refine bodyPost_ret (v := .tuple #[.slice A' (cs.length + its.length) c', .int .i64 0]) (by simp [results, Tryz.results152, go_sem]) rfl ⟨⟨A', c', by rw [HM.out]; simp, by rw [HM.out]; exact HFm.out _ rfl⟩, hbw⟩
end Go.Proofs.YtmbeeefkpgfgmaaGreatDoor
