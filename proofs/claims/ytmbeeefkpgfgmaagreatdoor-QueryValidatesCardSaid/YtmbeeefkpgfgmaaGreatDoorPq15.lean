/- Contract, told: ref15.derive. Contract, told: ref15.window. Contract, told: ref5.Select. Contract, told: ref15.group. -/
import Derived.Test.YtmbeeefkpgfgmaaGreatDoorPq14
set_option linter.unusedVariables false
set_option linter.unusedSimpArgs false
namespace Go.Proofs.YtmbeeefkpgfgmaaGreatDoor
open Go.RowKit
set_option maxRecDepth 100000 in
set_option maxHeartbeats 2000000 in
theorem ref15_derive_any (C : Option Addr) (cs : List Col) (cc : Nat) (s : Stp) (a : Adr) (Z : Option Addr) (zc : Nat) (w : World) (hF : Firm (fun W => ColsAt W C cs) w) (hg : ColG cs) (hA : s.At w a) (ho : s.ok) (h12 : s.items.length ≤ 12) (hZ : ZnsAt w Z zonesL) :
    Calls Tryz.prog 149 #[.slice C cs.length cc, s.agg a, .slice Z 3 zc] w fun e w' => ColR (derS cs s) w' e ∧ Below w.heap.size w w' := by
  have HI := hide hA.items
  have HO := hide ho.item
  have HZ := hide hZ
  have HC := hide hF.now
  have hcl := hg.le
  have hcp := hg.pos
  have HX := hide (show derS cs s = growS cs (derE cs s.items) (derC cs s.items) s.items.length from rfl)
  clear hF hg hA ho hZ
  generalize derS cs s = r at *
  obtain ⟨op, src, names, others, its, cond⟩ := s
  obtain ⟨nA, nC, oA, oC, iA, iC, cA, cC⟩ := a
  simp only at HI HO HX h12
  show Calls Tryz.prog 149 #[_, .agg #[.int .i64 op, str src, .slice nA names.length nC, .slice oA others.length oC, .slice iA its.length iC, .slice cA cond.length cC], _] w _
  generalize names.length = ln
  generalize others.length = lo
  generalize cond.length = lc
  have hl3 : zonesL.length = 3 := rfl
  obtain ⟨i0, hi, hz0, hz1, hz2⟩ := info_parts Tryz.info_col
  rcases HC.out with e | ⟨g, off, rfl, hgs, hcc⟩
  · exact absurd hcp (by rw [e]; simp)
  have hnews := coCells_get (w := w.alloc (.cells #[.int .i64 op, str src, .slice nA ln nC, .slice oA lo oC, .slice iA its.length iC, .slice cA lc cC] 27)) (g := g) (off := off) (cs := cs) (fun i hi => by
    have hb : Below w.heap.size w (w.alloc (.cells #[.int .i64 op, str src, .slice nA ln nC, .slice oA lo oC, .slice iA its.length iC, .slice cA lc cC] 27)) := by (repeat (first | exact Below.refl _ _ | assumption | refine Below.drew ?_ | refine below_drewN ?_ _ | refine Below.alloc ?_ (by first | omega | simp <;> omega) _ | refine Below.setCell ?_ (by first | omega | simp <;> omega) _))
    obtain ⟨q0, q1, q2⟩ := hcc i hi
    exact ⟨(hb.cell (p := ⟨g, _, none⟩) hgs).trans q0, (hb.cell (p := ⟨g, _, none⟩) hgs).trans q1, (hb.cell (p := ⟨g, _, none⟩) hgs).trans q2⟩)
  clear hcc
  have hbox : Below (w.heap.size + 1) (w.alloc (.cells #[.int .i64 op, str src, .slice nA ln nC, .slice oA lo oC, .slice iA its.length iC, .slice cA lc cC] 27)) (w.alloc (.cells #[.int .i64 op, str src, .slice nA ln nC, .slice oA lo oC, .slice iA its.length iC, .slice cA lc cC] 27)) := Below.refl _ _
  go_enter Tryz.func149, Tryz.ntmps149
  go_wp2_with (at_builtin; refine wpList_append_own _ rfl _ _ 64 rfl (w.heap.size + 1) 105 i0 _ 3 32 Tryz.underlying64 hi hz0 hz1 hz2 rfl (by decide) (.slice none 0 0) 0 [] rfl (own_nil _ _ _ _) ⟨g, off, none⟩ cs.length cc (coCells cs) rfl (coCells_len cs) hnews (coCells_one cs) (by unfold maxLen; omega) (by omega) (by simp) ?_; intro v0 w0 hown0 hgrow0 _)
  obtain ⟨A0, c0, hv0⟩ := own_form hown0
  rw [Nat.zero_add] at hv0
  subst hv0
  have hbel0 := hbox.grown hgrow0 (by simp) (fun k hk => by cases hk)
  simp only [Nat.zero_add, List.nil_append] at hown0
  clear hnews hgrow0
  go_wp2
  go_loopw [8, 9] (fun s i wr => ∃ (k : Nat) (A' : Option Addr) (c' : Nat), s = .slice A' (cs.length + k) c' ∧ i = .int .i64 k ∧ k ≤ its.length ∧ Hid (∀ j, j < k → derE cs its j = 0) ∧
      wr.ownsRow (w.heap.size + 1) 105 3 (.slice A' (cs.length + k) c') (cs.length + k) (coCells (cs ++ (List.range k).map (derC cs its))) ∧ Below (w.heap.size + 1) (w.alloc (.cells #[.int .i64 op, str src, .slice nA ln nC, .slice oA lo oC, .slice iA its.length iC, .slice cA lc cC] 27)) wr) (fun _ i _ => its.length - (intOf i).toNat)
  case atStart => exact ⟨0, A0, c0, by simp, rfl, by omega, fun j hj => absurd hj (Nat.not_lt_zero _), by simpa using hown0, hbel0⟩
  case round =>
    clear hown0 hbel0
    obtain ⟨k, A', c', rfl, rfl, hk, HZr, hown, hbel⟩ := hrel
    have hbw := box_below hbel
    have hsz := hbel.size
    have hsz' : w.heap.size + 1 ≤ wr.heap.size := by simpa using hsz
    obtain ⟨m0, m1, m2, m3, m4, m5, hlw⟩ := box6 hbel
    by_cases hlt : k < its.length
    · rcases HI.out.below hbw with e | ⟨g1, o1, rfl, hg1, hc1⟩
      · exact absurd hlt (by rw [e]; simp)
      obtain ⟨t0, t1, t2, t3, E, ec, t4, hE⟩ := hc1 k hlt
      have hok := HO.out _ (List.getElem_mem hlt)
      have HTy := hide (ref9_Type_s node_det E its[k].expr ec (some ⟨g, off, none⟩) cs cc Z zonesL zc wr hE hok.2 hok.1 (HC.out.below hbw) (by omega) (HZ.out.below hbw) (by decide))
      have HIx := hide (fun W (hb : Below w.heap.size w W) => show Calls Tryz.prog 222 #[.slice (some ⟨g, off, none⟩) cs.length cc, str its[k].name] W (fun e w' => e = .returned (.int .i64 (idxS cs its[k].name)) ∧ W = w') from ref5_Index_s _ cs cc ⟨its[k].name.toArray⟩ W (HC.out.below hb) (by omega))
      have HT := hide (derE_at (cs := cs) hlt)
      have HD := hide (derC_at (cs := cs) hlt)
      have HF := hide (fun x (e : derE cs its k = x) (hx : x ≠ 0) => HX.out.trans (grow_err (g := derC cs its) hlt HZr.out e hx))
      have HN := hide (fun (e : derE cs its k = 0) => step_lt HZr.out e)
      have HG := hide (grow_next cs (derC cs its) k)
      have HT0 := hide (fun W (hb : Below wr.heap.size wr W) => (hb.cell (p := ⟨g1, o1 + k * 5, none⟩) hg1).trans t0)
      rw [hl3] at HTy
      clear hc1 hE hok
      generalize idxS cs its[k].name = ix at *
      generalize typS cs zonesL its[k].expr = ty at *
      generalize its[k].expr.length = le at *
      generalize its[k] = x at *
      obtain ⟨⟨kk, bb⟩, xx⟩ := ty
      simp only at HT HD
      by_cases hx0 : xx = 0
      rotate_left
      · have hxb : (xx != 0) = true := by simpa using hx0
        have HR := hide (HF.out xx (HT.out.trans (if_pos hx0)) hx0)
        clear HF HN HT HD HG hx0
        go_wp2_with (go_at_call 224; refine HTy.out.mono ?_; rintro e w1 ⟨h9, hb1⟩; obtain rfl : e = .returned (.tuple #[.int .i64 kk, .bool bb, .int .i64 xx]) := h9)
        refine bodyPost_ret (v := .tuple #[.slice none 0 0, .int .i64 xx]) (by simp [results, Tryz.results149, go_sem]) rfl ⟨⟨none, 0, by rw [HR.out]; rfl, by rw [HR.out]; exact Firm.nil _ _⟩, bel2 hb1 hbw⟩
      subst hx0
      have HT2 := hide (HT.out.trans (if_neg (by simp)))
      clear HT
      by_cases hk0 : kk = 0
      · subst hk0
        have HR := hide (HF.out 7 (HT2.out.trans (if_pos rfl)) (by decide))
        clear HF HN HT2 HD HG
        go_wp2_with (go_at_call 224; refine HTy.out.mono ?_; rintro e w1 ⟨h9, hb1⟩; obtain rfl : e = .returned (.tuple #[.int .i64 0, .bool bb, .int .i64 0]) := h9)
        refine bodyPost_ret (v := .tuple #[.slice none 0 0, .int .i64 7]) (by simp [results, Tryz.results149, go_sem]) rfl ⟨⟨none, 0, by rw [HR.out]; rfl, by rw [HR.out]; exact Firm.nil _ _⟩, bel2 hb1 hbw⟩
      have hkb : (kk == 0) = false := beq_eq_false_iff_ne.2 hk0
      have HT3 := hide (HT2.out.trans (if_neg hk0))
      clear HT2 hk0
      by_cases hix : 0 ≤ ix
      · have HR := hide (HF.out 6 (HT3.out.trans (if_pos hix)) (by decide))
        clear HF HN HT3 HD HG
        go_wp2_with (first
          | (go_at_call 224; refine HTy.out.mono ?_; rintro e w1 ⟨h9, hb1⟩; obtain rfl : e = .returned (.tuple #[.int .i64 kk, .bool bb, .int .i64 0]) := h9; have hcur := below_go hbel (by simp) hb1; obtain ⟨n0, n1, n2, n3, n4, n5, hlw1⟩ := box6 hcur; have d0 := HT0.out _ hb1)
          | (go_at_call 222; refine (HIx.out _ (bel2 hb1 hbw)).mono ?_; rintro e w' ⟨rfl, rfl⟩))
        refine bodyPost_ret (v := .tuple #[.slice none 0 0, .int .i64 6]) (by simp [results, Tryz.results149, go_sem]) rfl ⟨⟨none, 0, by rw [HR.out]; rfl, by rw [HR.out]; exact Firm.nil _ _⟩, bel2 hb1 hbw⟩
      · have HR := hide (HN.out (HT3.out.trans (if_neg hix)))
        rw [HD.out] at HG
        have HOwn := hide (fun W (hb : Below wr.heap.size wr W) => own_below hown hb)
        have HLt := hide (fun j hj => (hown.lt j hj).1)
        clear HF HN HT3 HD hown
        go_wp2_with (first
          | (go_at_call 224; refine HTy.out.mono ?_; rintro e w1 ⟨h9, hb1⟩; obtain rfl : e = .returned (.tuple #[.int .i64 kk, .bool bb, .int .i64 0]) := h9; have hcur := below_go hbel (by simp) hb1; obtain ⟨n0, n1, n2, n3, n4, n5, hlw1⟩ := box6 hcur; have d0 := HT0.out _ hb1; have hsz1 := hb1.size)
          | (go_at_call 222; refine (HIx.out _ (bel2 hb1 hbw)).mono ?_; rintro e w' ⟨rfl, rfl⟩)
          | (at_builtin; refine wpList_append_own _ rfl _ _ 64 rfl (w.heap.size + 1) 105 i0 _ 3 32 Tryz.underlying64 hi hz0 hz1 hz2 rfl (by decide) _ _ _ rfl ((HOwn.out _ hb1).alloc _) ⟨w1.heap.size, 0, none⟩ 1 1 [str x.name, .int .i64 kk, .bool bb] rfl rfl (by exact cells_3 (heap_alloc_new _ _)) (by simp [Value.oneCell']) (by unfold maxLen; omega) (by omega) (by simp; omega) ?_; intro v' w3 hown3 hgrow _))
        obtain ⟨A3, c3, rfl⟩ := own_form hown3
        have hb3 := (hcur.alloc (by omega) (.cells #[str x.name, .int .i64 kk, .bool bb] 105)).grown hgrow (by first | (simp; done) | (simp; omega)) (fun j hj => HLt.out j hj)
        have HO3 := hide (show w3.ownsRow (w.heap.size + 1) 105 3 (.slice A3 (cs.length + (k + 1)) c3) (cs.length + (k + 1)) (coCells (cs ++ (List.range (k + 1)).map (derC cs its))) from by rw [HG.out]; exact hown3)
        clear hown3 hgrow
        go_wp2
        exact ⟨⟨k + 1, A3, c3, rfl, by go_num, by omega, HR, HO3.out, hb3⟩, by simp [intOf]; omega⟩
    · obtain rfl : k = its.length := by omega
      have HE := hide (HX.out.trans (grow_all HZr.out))
      have hlen : (cs ++ (List.range its.length).map (derC cs its)).length = cs.length + its.length := by simp
      rw [← hlen] at hown
      have HFm := hide (fun W (h : wr = W) => h ▸ Firm.cols hown)
      have HLn := hide hlen
      clear hlen hown
      by_cases hbig : 12 < cs.length + its.length
      · have HM := hide (show r = ([], 2) from HE.out.trans (by unfold manyS; rw [if_pos (by rw [HLn.out]; exact hbig)]))
        clear HE HLn
        go_wp2_with (go_at_call 225; refine (ref15_many_any _ _ _ _ (by omega)).mono ?_; rintro e w1 ⟨h9, rfl⟩; rw [if_pos hbig] at h9; subst h9)
        refine bodyPost_ret (v := .tuple #[.slice none 0 0, .int .i64 2]) (by simp [results, Tryz.results149, go_sem]) rfl ⟨⟨none, 0, by rw [HM.out]; rfl, by rw [HM.out]; exact Firm.nil _ _⟩, hbw⟩
      · have HM := hide (show r = (cs ++ (List.range its.length).map (derC cs its), 0) from HE.out.trans (by unfold manyS; rw [if_neg (by rw [HLn.out]; exact hbig)]))
        go_wp2_with (go_at_call 225; refine (ref15_many_any _ _ _ _ (by omega)).mono ?_; rintro e w1 ⟨h9, rfl⟩; rw [if_neg hbig] at h9; subst h9)
        refine bodyPost_ret (v := .tuple #[.slice A' (cs.length + its.length) c', .int .i64 0]) (by simp [results, Tryz.results149, go_sem]) rfl ⟨⟨A', c', by rw [HM.out]; simp, by rw [HM.out]; exact HFm.out _ rfl⟩, hbw⟩
end Go.Proofs.YtmbeeefkpgfgmaaGreatDoor
namespace Go.Proofs.YtmbeeefkpgfgmaaGreatDoor
open Go.RowKit
theorem wndE_at {cs : List Col} {its : List It} {k : Nat} (h : k < its.length) : wndE cs (its.getD k it0) = if (funS cs its[k]).2 ≠ 0 then (funS cs its[k]).2 else if 0 ≤ idxS cs (funS cs its[k]).1.name then 6 else 0 := by
  rw [List.getD_eq_getElem?_getD, List.getElem?_eq_getElem h]; rfl
theorem funC_at {cs : List Col} {its : List It} {k : Nat} (h : k < its.length) : (funS cs (its.getD k it0)).1 = (funS cs its[k]).1 := by
  rw [List.getD_eq_getElem?_getD, List.getElem?_eq_getElem h]; rfl
set_option maxRecDepth 100000 in
set_option maxHeartbeats 1200000 in
theorem ref15_window_any (C : Option Addr) (cs : List Col) (cc : Nat) (s : Stp) (a : Adr) (w : World) (hF : Firm (fun W => ColsAt W C cs) w) (hg : ColG cs) (hA : s.At w a) (ho : s.ok) (h12 : s.items.length ≤ 12) :
    Calls Tryz.prog 156 #[.slice C cs.length cc, s.agg a] w fun e w' => ColR (wndS cs s) w' e ∧ Below w.heap.size w w' := by
  have HI := hide hA.items
  have HC := hide hF.now
  have hcl := hg.le
  have hcp := hg.pos
  have HX := hide (show wndS cs s = if indX cs s.names ≠ 0 then ([], indX cs s.names) else if indX cs s.others ≠ 0 then ([], indX cs s.others)
  else growS cs (fun i => wndE cs (s.items.getD i it0)) (fun i => (funS cs (s.items.getD i it0)).1) s.items.length from rfl)
  have HI1 := hide (fun W (hb : Below w.heap.size w W) => ref5_Indices_s C cs cc a.nA s.names a.nC W (HC.out.below hb) (by omega) (hA.names.below hb) ho.names hA.cn)
  have HI2 := hide (fun W (hb : Below w.heap.size w W) => ref5_Indices_s C cs cc a.oA s.others a.oC W (HC.out.below hb) (by omega) (hA.others.below hb) ho.others hA.co)
  clear hF hg hA ho
  generalize wndS cs s = r at *
  obtain ⟨op, src, names, others, its, cond⟩ := s
  obtain ⟨nA, nC, oA, oC, iA, iC, cA, cC⟩ := a
  simp only at HI HX h12 HI1 HI2
  show Calls Tryz.prog 156 #[_, .agg #[.int .i64 op, str src, .slice nA names.length nC, .slice oA others.length oC, .slice iA its.length iC, .slice cA cond.length cC]] w _
  generalize cond.length = lc
  unfold IndIs at HI1 HI2
  have hbox : Below (w.heap.size + 1) (w.alloc (.cells #[.int .i64 op, str src, .slice nA names.length nC, .slice oA others.length oC, .slice iA its.length iC, .slice cA lc cC] 27)) (w.alloc (.cells #[.int .i64 op, str src, .slice nA names.length nC, .slice oA others.length oC, .slice iA its.length iC, .slice cA lc cC] 27)) := Below.refl _ _
  by_cases h1 : indX cs names = 0
  rotate_left
  · have hb : (indX cs names != 0) = true := by simpa using h1
    have HE := hide (HX.out.trans (if_pos h1))
    clear HX h1 HI2
    generalize indX cs names = e1 at *
    generalize indS cs names = l1 at *
    go_enter Tryz.func156, Tryz.ntmps156
    go_wp2_with (go_at_call 150; refine (HI1.out _ (box_below hbox)).mono ?_; rintro e w1 ⟨⟨A1, c1, rfl, hI1⟩, hb1⟩; have hbx := below_go hbox (by simp) hb1; clear hbox)
    refine bodyPost_ret (v := .tuple #[.slice none 0 0, .int .i64 e1]) (by simp [results, Tryz.results156, go_sem]) rfl ⟨⟨none, 0, by rw [HE.out]; rfl, by rw [HE.out]; exact Firm.nil _ _⟩, box_below hbx⟩
  by_cases h2 : indX cs others = 0
  rotate_left
  · have hb : (indX cs others != 0) = true := by simpa using h2
    have HE := hide ((HX.out.trans (if_neg (by simpa using h1))).trans (if_pos h2))
    rw [h1] at HI1
    clear HX h1 h2
    generalize indX cs others = e2 at *
    generalize indS cs others = l2 at *
    generalize indS cs names = l1 at *
    go_enter Tryz.func156, Tryz.ntmps156
    go_wp2_with (first
      | (go_at_call 150; refine (HI1.out _ (box_below hbox)).mono ?_; rintro e w1 ⟨⟨A1, c1, rfl, hI1⟩, hb1⟩; have hbx := below_go hbox (by simp) hb1; obtain ⟨m0, m1, m2, m3, m4, m5, hlw⟩ := box6 hbx; clear hbox)
      | (go_at_call 150; refine (HI2.out _ (box_below hbx)).mono ?_; rintro e w2 ⟨⟨A2, c2, rfl, hI2⟩, hb2⟩; have hby := below_go hbx (by simp) hb2; clear hbx))
    refine bodyPost_ret (v := .tuple #[.slice none 0 0, .int .i64 e2]) (by simp [results, Tryz.results156, go_sem]) rfl ⟨⟨none, 0, by rw [HE.out]; rfl, by rw [HE.out]; exact Firm.nil _ _⟩, box_below hby⟩
  have HX2 := hide ((HX.out.trans (if_neg (by simpa using h1))).trans (if_neg (by simpa using h2)))
  rw [h1] at HI1
  rw [h2] at HI2
  clear HX h1 h2
  generalize indS cs others = l2 at *
  generalize indS cs names = l1 at *
  obtain ⟨i0, hi, hz0, hz1, hz2⟩ := info_parts Tryz.info_col
  rcases HC.out with e | ⟨g, off, rfl, hgs, hcc⟩
  · exact absurd hcp (by rw [e]; simp)
  have hnews := hide (fun W (hb : Below w.heap.size w W) => coCells_get (w := W) (g := g) (off := off) (cs := cs) (fun i hi => by
    obtain ⟨q0, q1, q2⟩ := hcc i hi
    exact ⟨(hb.cell (p := ⟨g, _, none⟩) hgs).trans q0, (hb.cell (p := ⟨g, _, none⟩) hgs).trans q1, (hb.cell (p := ⟨g, _, none⟩) hgs).trans q2⟩))
  clear hcc
  go_enter Tryz.func156, Tryz.ntmps156
  go_wp2_with (first
    | (go_at_call 150; refine (HI1.out _ (box_below hbox)).mono ?_; rintro e w1 ⟨⟨A1, c1, rfl, hI1⟩, hb1⟩; have hbx := below_go hbox (by simp) hb1; obtain ⟨m0, m1, m2, m3, m4, m5, hlw⟩ := box6 hbx; clear hbox)
    | (go_at_call 150; refine (HI2.out _ (box_below hbx)).mono ?_; rintro e w2 ⟨⟨A2, c2, rfl, hI2⟩, hb2⟩; have hby := below_go hbx (by simp) hb2; have hwz := hby.size; rw [World.size_alloc] at hwz; clear hbx)
    | (at_builtin; refine wpList_append_own _ rfl _ _ 64 rfl (w.heap.size + 1) 105 i0 _ 3 32 Tryz.underlying64 hi hz0 hz1 hz2 rfl (by decide) (.slice none 0 0) 0 [] rfl (own_nil _ _ _ _) ⟨g, off, none⟩ cs.length cc (coCells cs) rfl (coCells_len cs) (hnews.out _ (box_below hby)) (coCells_one cs) (by unfold maxLen; omega) (by omega) hwz ?_; intro v0 w0 hown0 hgrow0 _))
  obtain ⟨A0, c0, hv0⟩ := own_form hown0
  rw [Nat.zero_add] at hv0
  subst hv0
  have hbel0 := hby.grown hgrow0 hwz (fun k hk => by cases hk)
  simp only [Nat.zero_add, List.nil_append] at hown0
  clear hnews hgrow0 HI1 HI2 hb1 hb2 hI1 hI2 hby hwz m0 m1 m2 m3 m4 m5
  go_wp2
  go_loopw [10, 11] (fun s i wr => ∃ (k : Nat) (A' : Option Addr) (c' : Nat), s = .slice A' (cs.length + k) c' ∧ i = .int .i64 k ∧ k ≤ its.length ∧ Hid (∀ j, j < k → wndE cs (its.getD j it0) = 0) ∧
      wr.ownsRow (w.heap.size + 1) 105 3 (.slice A' (cs.length + k) c') (cs.length + k) (coCells (cs ++ (List.range k).map (fun i => (funS cs (its.getD i it0)).1))) ∧ Below (w.heap.size + 1) (w.alloc (.cells #[.int .i64 op, str src, .slice nA names.length nC, .slice oA others.length oC, .slice iA its.length iC, .slice cA lc cC] 27)) wr) (fun _ i _ => its.length - (intOf i).toNat)
  case atStart => exact ⟨0, A0, c0, by simp, rfl, by omega, fun j hj => absurd hj (Nat.not_lt_zero _), by simpa using hown0, hbel0⟩
  case round =>
    clear hown0 hbel0
    obtain ⟨k, A', c', rfl, rfl, hk, HZr, hown, hbel⟩ := hrel
    have hbw := box_below hbel
    have hsz := hbel.size
    have hsz' : w.heap.size + 1 ≤ wr.heap.size := by simpa using hsz
    obtain ⟨m0, m1, m2, m3, m4, m5, hlw⟩ := box6 hbel
    by_cases hlt : k < its.length
    · rcases HI.out.below hbw with e | ⟨g1, o1, rfl, hg1, hc1⟩
      · exact absurd hlt (by rw [e]; simp)
      obtain ⟨t0, t1, t2, t3, E, ec, t4, hE⟩ := hc1 k hlt
      have HFn := hide (show Calls Tryz.prog 228 #[.slice (some ⟨g, off, none⟩) cs.length cc, .agg #[str its[k].name, .int .i64 its[k].fn, str its[k].col, .int .i64 its[k].num, .slice E its[k].expr.length ec]] wr (fun e w' => e = .returned (.tuple #[.agg #[str (funS cs its[k]).1.name, .int .i64 (funS cs its[k]).1.kind, .bool (funS cs its[k]).1.null], .int .i64 (funS cs its[k]).2]) ∧ Below wr.heap.size wr w') from ref15_function_any (some ⟨g, off, none⟩) cs cc its[k] E ec wr (HC.out.below hbw) (by omega))
      have HT := hide (wndE_at (cs := cs) hlt)
      have HIx := hide (fun W (hb : Below w.heap.size w W) => show Calls Tryz.prog 222 #[.slice (some ⟨g, off, none⟩) cs.length cc, str (funS cs its[k]).1.name] W (fun e w' => e = .returned (.int .i64 (idxS cs (funS cs its[k]).1.name)) ∧ W = w') from ref5_Index_s _ cs cc ⟨(funS cs its[k]).1.name.toArray⟩ W (HC.out.below hb) (by omega))
      have HF := hide (fun x (e : wndE cs (its.getD k it0) = x) (hx : x ≠ 0) => HX2.out.trans (grow_err (f := fun i => wndE cs (its.getD i it0)) (g := fun i => (funS cs (its.getD i it0)).1) hlt HZr.out e hx))
      have HN := hide (fun (e : wndE cs (its.getD k it0) = 0) => step_lt (P := fun j => wndE cs (its.getD j it0) = 0) HZr.out e)
      have HG := hide (grow_next cs (fun i => (funS cs (its.getD i it0)).1) k)
      simp only [funC_at (cs := cs) hlt] at HG
      clear hc1 hE
      generalize idxS cs (funS cs its[k]).1.name = ix at *
      generalize funS cs its[k] = t at *
      generalize its[k].expr.length = le at *
      generalize its[k] = x at *
      obtain ⟨⟨cn, ck, cb⟩, er⟩ := t
      simp only at HT HG HFn HIx
      by_cases her : er = 0
      rotate_left
      · have herb : (er != 0) = true := by simpa using her
        have HR := hide (HF.out er (HT.out.trans (if_pos her)) her)
        clear HF HN HT HG her
        go_wp2_with (go_at_call 228; refine HFn.out.mono ?_; rintro e w1 ⟨rfl, hb1⟩)
        refine bodyPost_ret (v := .tuple #[.slice none 0 0, .int .i64 er]) (by simp [results, Tryz.results156, go_sem]) rfl ⟨⟨none, 0, by rw [HR.out]; rfl, by rw [HR.out]; exact Firm.nil _ _⟩, (bel2 hb1 hbw).alloc (bel2 hb1 hbw).size _⟩
      subst her
      have HT2 := hide (HT.out.trans (if_neg (by simp)))
      clear HT
      by_cases hix : 0 ≤ ix
      · have HR := hide (HF.out 6 (HT2.out.trans (if_pos hix)) (by decide))
        clear HF HN HT2 HG
        go_wp2_with (first
          | (go_at_call 228; refine HFn.out.mono ?_; rintro e w1 ⟨rfl, hb1⟩; have hbc := (bel2 hb1 hbw).alloc (bel2 hb1 hbw).size (.cells #[str cn, .int .i64 ck, .bool cb] 105))
          | (go_at_call 222; refine (HIx.out _ hbc).mono ?_; rintro e w' ⟨rfl, rfl⟩))
        refine bodyPost_ret (v := .tuple #[.slice none 0 0, .int .i64 6]) (by simp [results, Tryz.results156, go_sem]) rfl ⟨⟨none, 0, by rw [HR.out]; rfl, by rw [HR.out]; exact Firm.nil _ _⟩, hbc⟩
      · have HR := hide (HN.out (HT2.out.trans (if_neg hix)))
        have HOwn := hide (fun W (hb : Below wr.heap.size wr W) => own_below hown hb)
        have HLt := hide (fun j hj => (hown.lt j hj).1)
        clear HF HN HT2 hown
        go_wp2_with (first
          | (go_at_call 228; refine HFn.out.mono ?_; rintro e w1 ⟨rfl, hb1⟩; have hbc := (bel2 hb1 hbw).alloc (bel2 hb1 hbw).size (.cells #[str cn, .int .i64 ck, .bool cb] 105); have hsz1 := hb1.size; have hcx := (below_go hbel (by simp) hb1).alloc (by omega) (.cells #[str cn, .int .i64 ck, .bool cb] 105); have hbd := hb1.alloc hb1.size (.cells #[str cn, .int .i64 ck, .bool cb] 105); have h8 := heap_alloc_new (w1.alloc (.cells #[str cn, .int .i64 ck, .bool cb] 105)) (.cells #[str cn, .int .i64 ck, .bool cb] 105); rw [World.size_alloc] at h8)
          | (go_at_call 222; refine (HIx.out _ hbc).mono ?_; rintro e w' ⟨rfl, rfl⟩)
          | (at_builtin; refine wpList_append_own _ rfl _ _ 64 rfl (w.heap.size + 1) 105 i0 _ 3 32 Tryz.underlying64 hi hz0 hz1 hz2 rfl (by decide) _ _ _ rfl ((HOwn.out _ hbd).alloc _) ⟨w1.heap.size + 1, 0, none⟩ 1 1 [str cn, .int .i64 ck, .bool cb] rfl rfl (by exact cells_3 h8) (by simp [Value.oneCell']) (by unfold maxLen; omega) (by omega) (by simp; omega) ?_; intro v' w3 hown3 hgrow _))
        obtain ⟨A3, c3, rfl⟩ := own_form hown3
        have hb3 := (hcx.alloc (by simp; omega) (.cells #[str cn, .int .i64 ck, .bool cb] 105)).grown hgrow (by first | (simp; done) | (simp; omega)) (fun j hj => HLt.out j hj)
        have HO3 := hide (show w3.ownsRow (w.heap.size + 1) 105 3 (.slice A3 (cs.length + (k + 1)) c3) (cs.length + (k + 1)) (coCells (cs ++ (List.range (k + 1)).map (fun i => (funS cs (its.getD i it0)).1))) from by rw [HG.out]; exact hown3)
        clear hown3 hgrow h8
        go_wp2
        exact ⟨⟨k + 1, A3, c3, rfl, by go_num, by omega, HR, HO3.out, hb3⟩, by simp [intOf]; omega⟩
    · obtain rfl : k = its.length := by omega
      have HE := hide (HX2.out.trans (grow_all (f := fun i => wndE cs (its.getD i it0)) HZr.out))
      have hlen : (cs ++ (List.range its.length).map (fun i => (funS cs (its.getD i it0)).1)).length = cs.length + its.length := by simp
      rw [← hlen] at hown
      have HFm := hide (fun W (h : wr = W) => h ▸ Firm.cols hown)
      have HLn := hide hlen
      clear hlen hown
      by_cases hbig : 12 < cs.length + its.length
      · have HM := hide (show r = ([], 2) from HE.out.trans (by unfold manyS; rw [if_pos (by rw [HLn.out]; exact hbig)]))
        clear HE HLn
        go_wp2_with (go_at_call 225; refine (ref15_many_any _ _ _ _ (by omega)).mono ?_; rintro e w1 ⟨h9, rfl⟩; rw [if_pos hbig] at h9; subst h9)
        refine bodyPost_ret (v := .tuple #[.slice none 0 0, .int .i64 2]) (by simp [results, Tryz.results156, go_sem]) rfl ⟨⟨none, 0, by rw [HM.out]; rfl, by rw [HM.out]; exact Firm.nil _ _⟩, hbw⟩
      · have HM := hide (show r = (cs ++ (List.range its.length).map (fun i => (funS cs (its.getD i it0)).1), 0) from HE.out.trans (by unfold manyS; rw [if_neg (by rw [HLn.out]; exact hbig)]))
        go_wp2_with (go_at_call 225; refine (ref15_many_any _ _ _ _ (by omega)).mono ?_; rintro e w1 ⟨h9, rfl⟩; rw [if_neg hbig] at h9; subst h9)
        refine bodyPost_ret (v := .tuple #[.slice A' (cs.length + its.length) c', .int .i64 0]) (by simp [results, Tryz.results156, go_sem]) rfl ⟨⟨A', c', by rw [HM.out]; simp, by rw [HM.out]; exact HFm.out _ rfl⟩, hbw⟩
end Go.Proofs.YtmbeeefkpgfgmaaGreatDoor
namespace Go.Proofs.YtmbeeefkpgfgmaaGreatDoor
open Go.RowKit
theorem set3_take {xs : List Value} {k n : Nat} (hl : xs.length = n * 3) (hk : k < n) (a b c : Value) :
    (((xs.set (k * 3) a).set (k * 3 + 1) b).set (k * 3 + 2) c).length = n * 3 ∧ (((xs.set (k * 3) a).set (k * 3 + 1) b).set (k * 3 + 2) c).take ((k + 1) * 3) = xs.take (k * 3) ++ [a, b, c] := by
  refine ⟨by simpa using hl, ?_⟩
  apply List.ext_getElem?
  intro j
  have e3 : (k + 1) * 3 = k * 3 + 3 := by omega
  rw [e3]
  rcases Nat.lt_or_ge j (k * 3) with h | h
  · rw [List.getElem?_take_of_lt (by omega), List.getElem?_append_left (by rw [List.length_take]; omega), List.getElem?_take_of_lt h]
    rw [List.getElem?_set_ne (by omega), List.getElem?_set_ne (by omega), List.getElem?_set_ne (by omega)]
  · rw [List.getElem?_append_right (by rw [List.length_take]; omega), List.length_take, Nat.min_eq_left (by omega)]
    rcases Nat.lt_or_ge j (k * 3 + 3) with h2 | h2
    · rw [List.getElem?_take_of_lt h2]
      obtain rfl | rfl | rfl : j = k * 3 ∨ j = k * 3 + 1 ∨ j = k * 3 + 2 := by omega
      · rw [List.getElem?_set_ne (by omega), List.getElem?_set_ne (by omega), List.getElem?_set_self (by omega), show k * 3 - k * 3 = 0 by omega]; rfl
      · rw [List.getElem?_set_ne (by omega), List.getElem?_set_self (by simp; omega), show k * 3 + 1 - k * 3 = 1 by omega]; rfl
      · rw [List.getElem?_set_self (by simp; omega), show k * 3 + 2 - k * 3 = 2 by omega]; rfl
    · rw [List.getElem?_eq_none (by rw [List.length_take]; omega), List.getElem?_eq_none (by simp; omega)]
set_option maxRecDepth 100000 in
set_option maxHeartbeats 1200000 in
theorem ref5_Select_any (C : Option Addr) (cs : List Col) (cc : Nat) (L : Option Addr) (l : List Int) (lc : Nat) (w : World) (hC : ColsAt w C cs) (hcl : cs.length ≤ 1000) (hL : IntsAt w L l) (hll : l.length ≤ 1000) (hin : ∀ i, i < l.length → 0 ≤ l.getD i 0 ∧ l.getD i 0 < cs.length) :
    Calls Tryz.prog 151 #[.slice C cs.length cc, .slice L l.length lc] w fun e w' => (∃ (A : Option Addr) (c : Nat), e = .returned (.slice A l.length c) ∧ w'.ownsRow w.heap.size 105 3 (.slice A l.length c) l.length (coCells (selS cs l))) ∧ Below w.heap.size w w' := by
  have HC := hide hC
  have HL := hide hL
  have HN := hide hin
  clear hC hL hin
  obtain ⟨i0, hi, hz0, hz1, hz2⟩ := info_parts Tryz.info_col
  go_enter Tryz.func151, Tryz.ntmps151
  go_wp2_with (refine wpList_make_full _ rfl _ _ 64 rfl w.heap.size 105 i0 _ 3 Tryz.underlying64 hi hz0 hz1 .i64 .i64 _ _ l.length rfl rfl rfl rfl (by rw [hz2]; omega) (by unfold maxLen; omega) (Nat.le_refl _) ?_; intro w0 hown0 hgrow0)
  have hbel0 : Below w.heap.size w w0 := (Below.refl _ _).grown hgrow0 (Nat.le_refl _) (fun k hk => by cases hk)
  go_wp2
  go_loopw [6] (fun i wr => ∃ (k : Nat) (xs : List Value), i = .int .i64 k ∧ k ≤ l.length ∧ Hid (xs.length = l.length * 3 ∧ xs.take (k * 3) = coCells ((l.take k).map (colAt cs))) ∧
      wr.ownsRow w.heap.size 105 3 (.slice (some ⟨w.heap.size, 0, none⟩) l.length l.length) l.length xs ∧ Below w.heap.size w wr) (fun i _ => l.length - (intOf i).toNat)
  case atStart => exact ⟨0, _, rfl, by omega, ⟨hown0.1, by simp [coCells]⟩, hown0, hbel0⟩
  case round =>
    clear hown0 hbel0 hgrow0
    obtain ⟨k, xs, rfl, hk, HX, hown, hbel⟩ := hrel
    by_cases hlt : k < l.length
    · rcases HL.out.below hbel with e | ⟨⟨g1, o1, s1⟩, rfl, hg1, hm1, hi1⟩
      · exact absurd hlt (by rw [e]; simp)
      obtain ⟨h0, h1⟩ := HN.out k hlt
      obtain ⟨m, hm⟩ : ∃ m : Nat, l.getD k 0 = m := ⟨(l.getD k 0).toNat, by omega⟩
      have hml : m < cs.length := by omega
      rcases HC.out.below hbel with e | ⟨gc, oc, rfl, hgc, hcc⟩
      · exact absurd hml (by rw [e]; simp)
      have x0 := hi1 k hlt
      rw [hm] at x0
      obtain ⟨u0, u1, u2⟩ := hcc m hml
      have HS := hide (show (l.take (k + 1)).map (colAt cs) = (l.take k).map (colAt cs) ++ [cs[m]] from by
        rw [List.take_succ_eq_append_getElem hlt, List.map_append]
        have e1 : l[k] = (m : Int) := by rw [← hm, List.getD_eq_getElem?_getD, List.getElem?_eq_getElem hlt]; rfl
        have e2 : colAt cs (m : Int) = cs[m] := by
          unfold colAt
          rw [if_pos (by omega), Int.toNat_natCast, List.getD_eq_getElem?_getD, List.getElem?_eq_getElem hml]
          rfl
        simp [e1, e2])
      have b1 : (0 : Int) ≤ (m : Int) ∧ (m : Int) < (cs.length : Int) := by omega
      have hlen := HX.out.1
      have v0 : wr.cell? ⟨w.heap.size, k * 3, none⟩ = xs[k * 3]? := World.ownsRow.cellAt hown _ (by omega)
      have v1 : wr.cell? ⟨w.heap.size, k * 3 + 1, none⟩ = xs[k * 3 + 1]? := World.ownsRow.cellAt hown _ (by omega)
      have v2 : wr.cell? ⟨w.heap.size, k * 3 + 2, none⟩ = xs[k * 3 + 2]? := World.ownsRow.cellAt hown _ (by omega)
      rw [List.getElem?_eq_getElem (by omega)] at v0 v1 v2
      have f0 := World.ownsRow.frozenAt hown (k * 3)
      have f1 := World.ownsRow.frozenAt hown (k * 3 + 1)
      have f2 := World.ownsRow.frozenAt hown (k * 3 + 2)
      clear hcc hi1 h0 h1 hm
      generalize cs[m] = y at *
      generalize xs[k * 3] = z0 at *
      generalize xs[k * 3 + 1] = z1 at *
      generalize xs[k * 3 + 2] = z2 at *
      have HOwn := hide hown
      clear hown hlen
      go_wp2
      obtain ⟨s1, g1⟩ := HOwn.out.stored (k * 3) (str y.name)
      obtain ⟨s2, g2⟩ := s1.stored (k * 3 + 1) (.int .i64 y.kind)
      obtain ⟨s3, g3⟩ := s2.stored (k * 3 + 2) (.bool y.null)
      have hz := hbel.size
      have t1 := hbel.grown g1 hz (fun j e => by injection e with e; omega)
      have t2 := t1.grown g2 t1.size (fun j e => by injection e with e; omega)
      have t3 := t2.grown g3 t2.size (fun j e => by injection e with e; omega)
      obtain ⟨q1, q2⟩ := set3_take (k := k) HX.out.1 hlt (str y.name) (.int .i64 y.kind) (.bool y.null)
      exact ⟨⟨k + 1, _, by go_num, by omega, hide ⟨q1, by rw [q2, HX.out.2, HS.out, coCells_push]⟩, s3, t3⟩, by simp [intOf]; omega⟩
    · obtain rfl : k = l.length := by omega
      have h9 := HX.out.2
      have h8 := HX.out.1
      rw [List.take_length, List.take_of_length_le (by omega)] at h9
      go_wp2
      go_ret
      exact ⟨⟨_, _, rfl, by rw [show selS cs l = l.map (colAt cs) from rfl, ← h9]; exact hown⟩, hbel⟩
end Go.Proofs.YtmbeeefkpgfgmaaGreatDoor
namespace Go.Proofs.YtmbeeefkpgfgmaaGreatDoor
open Go.RowKit
theorem funE_at {cs : List Col} {its : List It} {k : Nat} (h : k < its.length) : (funS cs (its.getD k it0)).2 = (funS cs its[k]).2 := by
  rw [List.getD_eq_getElem?_getD, List.getElem?_eq_getElem h]; rfl
set_option maxRecDepth 100000 in
set_option maxHeartbeats 1200000 in
theorem ref15_group_any (C : Option Addr) (cs : List Col) (cc : Nat) (s : Stp) (a : Adr) (w : World) (hF : Firm (fun W => ColsAt W C cs) w) (hg : ColG cs) (hA : s.At w a) (ho : s.ok) (h12 : s.items.length ≤ 12) (hn12 : s.names.length ≤ 12) :
    Calls Tryz.prog 155 #[.slice C cs.length cc, s.agg a] w fun e w' => ColR (grpS cs s) w' e ∧ Below w.heap.size w w' := by
  have HI := hide hA.items
  have HC := hide hF.now
  have hcl := hg.le
  have hcp := hg.pos
  have HX := hide (show grpS cs s = if indX cs s.names ≠ 0 then ([], indX cs s.names)
  else growS (selS cs (s.names.map (idxS cs))) (fun i => (funS cs (s.items.getD i it0)).2) (fun i => (funS cs (s.items.getD i it0)).1) s.items.length from rfl)
  have HI1 := hide (fun W (hb : Below w.heap.size w W) => ref5_Indices_s C cs cc a.nA s.names a.nC W (HC.out.below hb) (by omega) (hA.names.below hb) ho.names hA.cn)
  clear hF hg hA ho
  generalize grpS cs s = r at *
  obtain ⟨op, src, names, others, its, cond⟩ := s
  obtain ⟨nA, nC, oA, oC, iA, iC, cA, cC⟩ := a
  simp only at HI HX h12 HI1 hn12
  show Calls Tryz.prog 155 #[_, .agg #[.int .i64 op, str src, .slice nA names.length nC, .slice oA others.length oC, .slice iA its.length iC, .slice cA cond.length cC]] w _
  generalize cond.length = lc
  generalize others.length = lo
  unfold IndIs at HI1
  have hbox : Below (w.heap.size + 1) (w.alloc (.cells #[.int .i64 op, str src, .slice nA names.length nC, .slice oA lo oC, .slice iA its.length iC, .slice cA lc cC] 27)) (w.alloc (.cells #[.int .i64 op, str src, .slice nA names.length nC, .slice oA lo oC, .slice iA its.length iC, .slice cA lc cC] 27)) := Below.refl _ _
  by_cases h1 : indX cs names = 0
  rotate_left
  · have hb : (indX cs names != 0) = true := by simpa using h1
    have HE := hide (HX.out.trans (if_pos h1))
    clear HX h1
    generalize indX cs names = e1 at *
    generalize indS cs names = l1 at *
    go_enter Tryz.func155, Tryz.ntmps155
    go_wp2_with (go_at_call 150; refine (HI1.out _ (box_below hbox)).mono ?_; rintro e w1 ⟨⟨A1, c1, rfl, hI1⟩, hb1⟩; have hbx := below_go hbox (by simp) hb1; clear hbox)
    refine bodyPost_ret (v := .tuple #[.slice none 0 0, .int .i64 e1]) (by simp [results, Tryz.results155, go_sem]) rfl ⟨⟨none, 0, by rw [HE.out]; rfl, by rw [HE.out]; exact Firm.nil _ _⟩, box_below hbx⟩
  have HX2 := hide (HX.out.trans (if_neg (by simpa using h1)))
  have HIN := hide (show ∀ i, i < (names.map (idxS cs)).length → 0 ≤ (names.map (idxS cs)).getD i 0 ∧ (names.map (idxS cs)).getD i 0 < cs.length from fun i hi => by
    have hi2 : i < names.length := by simpa using hi
    have e : (names.map (idxS cs)).getD i 0 = idxS cs (names.getD i []) := by simp [List.getD_eq_getElem?_getD, List.getElem?_map, hi2]
    rw [e]
    exact ⟨ind_ok h1 i hi2, idxS_lt _ _⟩)
  rw [h1, indS_ok h1] at HI1
  clear HX h1
  have hml : (names.map (idxS cs)).length = names.length := by simp
  have hsl : (selS cs (names.map (idxS cs))).length = names.length := by simp [selS]
  have HSe := hide (fun (A1 : Option Addr) (c1 : Nat) W (hb : Below w.heap.size w W) (hI : IntsAt W A1 (names.map (idxS cs))) => by
    have := ref5_Select_any C cs cc A1 (names.map (idxS cs)) c1 W (HC.out.below hb) (by omega) hI (by omega) HIN.out
    rw [hml] at this
    exact this)
  rw [hml] at HI1
  have HSL := hide hsl
  clear hml hsl HIN
  generalize selS cs (names.map (idxS cs)) = bs at *
  obtain ⟨i0, hi, hz0, hz1, hz2⟩ := info_parts Tryz.info_col
  go_enter Tryz.func155, Tryz.ntmps155
  go_wp2_with (first
    | (go_at_call 150; refine (HI1.out _ (box_below hbox)).mono ?_; rintro e w1 ⟨⟨A1, c1, rfl, hI1⟩, hb1⟩; have hbx := below_go hbox (by simp) hb1; obtain ⟨m0, m1, m2, m3, m4, m5, hlw⟩ := box6 hbx; have HJ := hide hI1; clear hbox hI1)
    | (go_at_call 151; refine (HSe.out A1 c1 _ (box_below hbx) HJ.out).mono ?_; rintro e w2 ⟨⟨A0, c0, rfl, hown0⟩, hb2⟩; have hby := below_go hbx (by simp) hb2; have HO0 := hide (own_low hown0 (show w.heap.size + 1 ≤ w1.heap.size by omega)); clear hown0))
  clear HI1 HSe HJ hb1 hb2 hbx m0 m1 m2 m3 m4 m5
  go_loopw [8, 9] (fun s i wr => ∃ (k : Nat) (A' : Option Addr) (c' : Nat), s = .slice A' (names.length + k) c' ∧ i = .int .i64 k ∧ k ≤ its.length ∧ Hid (∀ j, j < k → (funS cs (its.getD j it0)).2 = 0) ∧
      wr.ownsRow (w.heap.size + 1) 105 3 (.slice A' (names.length + k) c') (names.length + k) (coCells (bs ++ (List.range k).map (fun i => (funS cs (its.getD i it0)).1))) ∧ Below (w.heap.size + 1) (w.alloc (.cells #[.int .i64 op, str src, .slice nA names.length nC, .slice oA lo oC, .slice iA its.length iC, .slice cA lc cC] 27)) wr) (fun _ i _ => its.length - (intOf i).toNat)
  case atStart => exact ⟨0, A0, c0, by simp, rfl, by omega, fun j hj => absurd hj (Nat.not_lt_zero _), by simpa using HO0.out, hby⟩
  case round =>
    clear HO0 hby
    obtain ⟨k, A', c', rfl, rfl, hk, HZr, hown, hbel⟩ := hrel
    have hbw := box_below hbel
    have hsz := hbel.size
    have hsz' : w.heap.size + 1 ≤ wr.heap.size := by simpa using hsz
    obtain ⟨m0, m1, m2, m3, m4, m5, hlw⟩ := box6 hbel
    by_cases hlt : k < its.length
    · rcases HI.out.below hbw with e | ⟨g1, o1, rfl, hg1, hc1⟩
      · exact absurd hlt (by rw [e]; simp)
      obtain ⟨t0, t1, t2, t3, E, ec, t4, hE⟩ := hc1 k hlt
      have HFn := hide (show Calls Tryz.prog 228 #[.slice C cs.length cc, .agg #[str its[k].name, .int .i64 its[k].fn, str its[k].col, .int .i64 its[k].num, .slice E its[k].expr.length ec]] wr (fun e w' => e = .returned (.tuple #[.agg #[str (funS cs its[k]).1.name, .int .i64 (funS cs its[k]).1.kind, .bool (funS cs its[k]).1.null], .int .i64 (funS cs its[k]).2]) ∧ Below wr.heap.size wr w') from ref15_function_any C cs cc its[k] E ec wr (HC.out.below hbw) (by omega))
      have HT := hide (funE_at (cs := cs) hlt)
      have HF := hide (fun x (e : (funS cs (its.getD k it0)).2 = x) (hx : x ≠ 0) => HX2.out.trans (grow_err (f := fun i => (funS cs (its.getD i it0)).2) (g := fun i => (funS cs (its.getD i it0)).1) hlt HZr.out e hx))
      have HN := hide (fun (e : (funS cs (its.getD k it0)).2 = 0) => step_lt (P := fun j => (funS cs (its.getD j it0)).2 = 0) HZr.out e)
      have HG := hide (grow_next bs (fun i => (funS cs (its.getD i it0)).1) k)
      simp only [funC_at (cs := cs) hlt] at HG
      clear hc1 hE
      generalize funS cs its[k] = t at *
      generalize its[k].expr.length = le at *
      generalize its[k] = x at *
      obtain ⟨⟨cn, ck, cb⟩, er⟩ := t
      simp only at HT HG HFn
      by_cases her : er = 0
      rotate_left
      · have herb : (er != 0) = true := by simpa using her
        have HR := hide (HF.out er HT.out her)
        clear HF HN HT HG her
        go_wp2_with (go_at_call 228; refine HFn.out.mono ?_; rintro e w1 ⟨rfl, hb1⟩)
        refine bodyPost_ret (v := .tuple #[.slice none 0 0, .int .i64 er]) (by simp [results, Tryz.results155, go_sem]) rfl ⟨⟨none, 0, by rw [HR.out]; rfl, by rw [HR.out]; exact Firm.nil _ _⟩, (bel2 hb1 hbw).alloc (bel2 hb1 hbw).size _⟩
      subst her
      have HR := hide (HN.out HT.out)
      have HOwn := hide (fun W (hb : Below wr.heap.size wr W) => own_below hown hb)
      have HLt := hide (fun j hj => (hown.lt j hj).1)
      clear HF HN HT hown
      go_wp2_with (first
        | (go_at_call 228; refine HFn.out.mono ?_; rintro e w1 ⟨rfl, hb1⟩; have hsz1 := hb1.size; have hcx := (below_go hbel (by simp) hb1).alloc (by omega) (.cells #[str cn, .int .i64 ck, .bool cb] 105); have hbd := hb1.alloc hb1.size (.cells #[str cn, .int .i64 ck, .bool cb] 105); have h8 := heap_alloc_new (w1.alloc (.cells #[str cn, .int .i64 ck, .bool cb] 105)) (.cells #[str cn, .int .i64 ck, .bool cb] 105); rw [World.size_alloc] at h8)
        | (at_builtin; refine wpList_append_own _ rfl _ _ 64 rfl (w.heap.size + 1) 105 i0 _ 3 32 Tryz.underlying64 hi hz0 hz1 hz2 rfl (by decide) _ _ _ rfl ((HOwn.out _ hbd).alloc _) ⟨w1.heap.size + 1, 0, none⟩ 1 1 [str cn, .int .i64 ck, .bool cb] rfl rfl (by exact cells_3 h8) (by simp [Value.oneCell']) (by unfold maxLen; omega) (by omega) (by simp; omega) ?_; intro v' w3 hown3 hgrow _))
      obtain ⟨A3, c3, rfl⟩ := own_form hown3
      have hb3 := (hcx.alloc (by simp; omega) (.cells #[str cn, .int .i64 ck, .bool cb] 105)).grown hgrow (by first | (simp; done) | (simp; omega)) (fun j hj => HLt.out j hj)
      have HO3 := hide (show w3.ownsRow (w.heap.size + 1) 105 3 (.slice A3 (names.length + (k + 1)) c3) (names.length + (k + 1)) (coCells (bs ++ (List.range (k + 1)).map (fun i => (funS cs (its.getD i it0)).1))) from by rw [HG.out]; exact hown3)
      clear hown3 hgrow h8
      go_wp2
      exact ⟨⟨k + 1, A3, c3, rfl, by go_num, by omega, HR, HO3.out, hb3⟩, by simp [intOf]; omega⟩
    · obtain rfl : k = its.length := by omega
      have HE := hide (HX2.out.trans (grow_all (f := fun i => (funS cs (its.getD i it0)).2) HZr.out))
      have hlen : (bs ++ (List.range its.length).map (fun i => (funS cs (its.getD i it0)).1)).length = names.length + its.length := by have := HSL.out; simp [this]
      rw [← hlen] at hown
      have HFm := hide (fun W (h : wr = W) => h ▸ Firm.cols hown)
      have HLn := hide hlen
      clear hlen hown
      by_cases hbig : 12 < names.length + its.length
      · have HM := hide (show r = ([], 2) from HE.out.trans (by unfold manyS; rw [if_pos (by rw [HLn.out]; exact hbig)]))
        clear HE HLn
        go_wp2_with (go_at_call 225; refine (ref15_many_any _ _ _ _ (by omega)).mono ?_; rintro e w1 ⟨h9, rfl⟩; rw [if_pos hbig] at h9; subst h9)
        refine bodyPost_ret (v := .tuple #[.slice none 0 0, .int .i64 2]) (by simp [results, Tryz.results155, go_sem]) rfl ⟨⟨none, 0, by rw [HM.out]; rfl, by rw [HM.out]; exact Firm.nil _ _⟩, hbw⟩
      · have HM := hide (show r = (bs ++ (List.range its.length).map (fun i => (funS cs (its.getD i it0)).1), 0) from HE.out.trans (by unfold manyS; rw [if_neg (by rw [HLn.out]; exact hbig)]))
        go_wp2_with (go_at_call 225; refine (ref15_many_any _ _ _ _ (by omega)).mono ?_; rintro e w1 ⟨h9, rfl⟩; rw [if_neg hbig] at h9; subst h9)
        refine bodyPost_ret (v := .tuple #[.slice A' (names.length + its.length) c', .int .i64 0]) (by simp [results, Tryz.results155, go_sem]) rfl ⟨⟨A', c', by rw [HM.out]; simp [HSL.out], by rw [HM.out]; exact HFm.out _ rfl⟩, hbw⟩
end Go.Proofs.YtmbeeefkpgfgmaaGreatDoor
