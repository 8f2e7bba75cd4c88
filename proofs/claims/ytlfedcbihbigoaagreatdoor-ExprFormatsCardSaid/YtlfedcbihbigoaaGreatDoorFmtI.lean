/- Contracts: write (expr) of calls; any node. -/
import Derived.Test.YtlfedcbihbigoaaGreatDoorFmtX
import Derived.Test.YtlfedcbihbigoaaGreatDoorFmtF
import Derived.Test.YtlfedcbihbigoaaGreatDoorFmtBG
import Derived.Test.YtlfedcbihbigoaaGreatDoorFmtPR
import Derived.Test.YtlfedcbihbigoaaGreatDoorJoiRv
set_option linter.unusedVariables false
set_option linter.unusedSimpArgs false
namespace Go.Proofs.YtlfedcbihbigoaaGreatDoor
open Go.RowKit Go.WideMaps Go.Maps
theorem bel_grown {w w' : World} (h : w.grownBy w' none) : Below w.heap.size w w' := ⟨h.os, h.tape, h.output, h.size, fun k hk => h.block k hk (by simp)⟩
set_option maxRecDepth 100000 in
set_option maxHeartbeats 8000000 in
theorem expr_write_call (o : Int) (y : Bytes) (a : Int) (l : List Pc) (A : Option Addr) (c : Nat) (w : World) (ho : 16 ≤ o ∧ o ≤ 21) (hA : PcsAt w A l) (hy : y.length ≤ 49) (hl : l.length ≤ 8) (hs : sumL l ≤ 100000) :
    Calls Tryz.prog 36 #[(⟨o, vl0, y, a⟩ : Nd).agg, .slice A l.length c] w fun e w' => e = .returned (⟨fnS o y ++ [40] ++ List.intercalate [44, 32] (l.map Pc.text ++ (if o = 20 then [y] else [])) ++ [41], 8, false⟩ : Pc).agg ∧ Below w.heap.size w w' := by
  have hbg : binG o = ([], 0, 0, 0) := by unfold binG; rw [binS_none (by omega)]; rfl
  have HLk := hide (fun (X : World) (Bc nc : Nat) (h : X.ownsMap Tryz.prog 3 binR Bc nc binD) => (show (Instr.lookup 106 (.map (some Bc)) (.int .i64 o) true).run Tryz.prog X = .ok (.tuple #[.agg #[str [], .int .i64 0, .int .i64 0, .int .i64 0], .bool false]) X from by have := bin_look h o (wf_int2 (by omega) (by omega)); rw [hbg, binS_none (by omega)] at this; exact this))
  clear hbg
  have HA := hide hA
  have hf := fnS_len (o := o) (x := y) hy
  obtain ⟨i0, hi, hz0, hz1, hz2⟩ := info_parts Tryz.info_str
  have HAr := hide (show (List.intercalate [44, 32] (l.map Pc.text ++ (if o = 20 then [y] else []))).length ≤ 100100 from Nat.le_trans (inter2_len _) (by
    rw [List.map_append, List.sum_append, map_text_sum, List.length_append, List.length_map]
    split
    · simp only [List.map_cons, List.map_nil, List.sum_cons, List.sum_nil, List.length_singleton]; omega
    · simp only [List.map_nil, List.sum_nil, List.length_nil]; omega))
  generalize hjj : List.intercalate [44, 32] (l.map Pc.text ++ (if o = 20 then [y] else [])) = jj at *
  have HJJ := hide hjj
  have hjl := HAr.out
  clear hjj HAr
  have HNs := hide (nm_start o y)
  have HNe := hide (fun (left : Lit → Bool) (s : Value) (h : NmRel o y left s) (hl : ∀ kl, left kl = false) => nm_end h hl)
  have b0 : (o == 0) = false := beq_eq_false_iff_ne.2 (by omega)
  have b1 : (o == 1) = false := beq_eq_false_iff_ne.2 (by omega)
  have b2 : (o == 2) = false := beq_eq_false_iff_ne.2 (by omega)
  have b3 : (o == 3) = false := beq_eq_false_iff_ne.2 (by omega)
  clear hA
  generalize fnS o y = x at *
  go_enter Tryz.func36, Tryz.ntmps36
  go_wp2
  go_upto_region 1 with fail
  go_cut [5, 6] from 13 to 122 (fun s5 s6 wx => ∃ cB : Nat, s5 = .pointer (some ⟨cB, 0, none⟩) ∧ s6 = .bool false ∧ Hid (Below ((w.alloc (.cells #[.int .i64 o, .int .i64 vl0.kind, .int .i64 vl0.num, str vl0.text, str y, .int .i64 a] 53)).alloc (.cells #[.string ⟨#[]⟩, .int .i64 0, .bool false] 75)).heap.size ((w.alloc (.cells #[.int .i64 o, .int .i64 vl0.kind, .int .i64 vl0.num, str vl0.text, str y, .int .i64 a] 53)).alloc (.cells #[.string ⟨#[]⟩, .int .i64 0, .bool false] 75)) wx) ∧ w.heap.size + 1 < cB ∧ cB < wx.heap.size ∧ wx.cell? ⟨cB, 0, none⟩ = some (str []) ∧ wx.cell? ⟨cB, 1, none⟩ = some (.int .i64 0) ∧ wx.cell? ⟨cB, 2, none⟩ = some (.int .i64 0) ∧ wx.cell? ⟨cB, 3, none⟩ = some (.int .i64 0))
  case first =>
    first | (go_region_with (go_at_call 65; refine (binary_any _).mono ?_; rintro e5 w5 ⟨⟨Bc, nc, rfl, hown⟩, hb5⟩; have HBW := hide (show Below ((w.alloc (.cells #[.int .i64 o, .int .i64 vl0.kind, .int .i64 vl0.num, str vl0.text, str y, .int .i64 a] 53)).alloc (.cells #[.string ⟨#[]⟩, .int .i64 0, .bool false] 75)).heap.size ((w.alloc (.cells #[.int .i64 o, .int .i64 vl0.kind, .int .i64 vl0.num, str vl0.text, str y, .int .i64 a] 53)).alloc (.cells #[.string ⟨#[]⟩, .int .i64 0, .bool false] 75)) w5 from bel2 hb5 (by (repeat (first | exact Below.refl _ _ | assumption | refine Below.drew ?_ | refine below_drewN ?_ _ | refine Below.alloc ?_ (by first | omega | (simp; done) | (simp; omega)) _ | refine Below.setCell ?_ (by first | omega | (simp; done) | (simp; omega)) _)))); have hl0 := HLk.out w5 Bc nc hown; have hl2 := fun (o : Obj) => HLk.out (w5.alloc o) Bc nc (hown.alloc o); have m0 : w5.cell? ⟨w.heap.size, 0, none⟩ = some (.int .i64 o) := (hb5.cell (p := ⟨w.heap.size, 0, none⟩) (by first | (simp; done) | (simp; omega))).trans (by go_simp); have hz5 : w.heap.size + 1 < w5.heap.size := (by have := hb5.size; simp at this; omega); have hz5a : w.heap.size < w5.heap.size := (by omega); (first | (have k0 : w5.cell? ⟨w.heap.size + 1 + 1, 0, none⟩ = some (.string ⟨#[]⟩) := (hb5.cell (p := ⟨w.heap.size + 1 + 1, 0, none⟩) (by first | (simp; done) | (simp; omega))).trans (by go_simp); have k1 : w5.cell? ⟨w.heap.size + 1 + 1, 1, none⟩ = some (.int .i64 0) := (hb5.cell (p := ⟨w.heap.size + 1 + 1, 1, none⟩) (by first | (simp; done) | (simp; omega))).trans (by go_simp); have k2 : w5.cell? ⟨w.heap.size + 1 + 1, 2, none⟩ = some (.int .i64 0) := (hb5.cell (p := ⟨w.heap.size + 1 + 1, 2, none⟩) (by first | (simp; done) | (simp; omega))).trans (by go_simp); have k3 : w5.cell? ⟨w.heap.size + 1 + 1, 3, none⟩ = some (.int .i64 0) := (hb5.cell (p := ⟨w.heap.size + 1 + 1, 3, none⟩) (by first | (simp; done) | (simp; omega))).trans (by go_simp); have kf : ∀ i, w5.frozen? ⟨w.heap.size + 1 + 1, i, none⟩ = false := (fun i => (World.frozen?_of_block (hb5.block (w.heap.size + 1 + 1) (by first | (simp; done) | (simp; omega)))).trans (by go_simp)); have hz52 : w.heap.size + 1 + 1 < w5.heap.size := (by have := hb5.size; simp at this; omega)) | skip); clear hb5)) | fail
    all_goals
      go_wp2_with fail
      go_meet
      refine ⟨_, rfl, rfl, hide (by have := HBW.out; (repeat (first | exact Below.refl _ _ | assumption | refine Below.drew ?_ | refine below_drewN ?_ _ | refine Below.alloc ?_ (by first | omega | (simp; done) | (simp; omega)) _ | refine Below.setCell ?_ (by first | omega | (simp; done) | (simp; omega)) _))), ?_, ?_, ?_, ?_, ?_, ?_⟩
      all_goals first | (simp; done) | (simp; omega) | go_simp
  case rest =>
    obtain ⟨cB, rfl, rfl, HBc, hcB1, hcB2, q0, q1, q2, q3⟩ := hcut
    have hR := res_block HBc.out
    have hN : wc.heap[w.heap.size]? = some (.cells #[.int .i64 o, .int .i64 vl0.kind, .int .i64 vl0.num, str vl0.text, str y, .int .i64 a] 53) := (HBc.out.block _ (by simp; omega)).trans (two_under w _ _).1
    obtain ⟨n0, n1, n2, n3, n4, n5⟩ := cells6 hN
    obtain ⟨r0, r1, r2⟩ := cells3 hR
    have rf := free6 hR
    have hz := lt_of_heap hR
    obtain ⟨z0, z1, z2⟩ := set3 hR
    have hbw : Below w.heap.size w wc := bel2 HBc.out (by (repeat (first | exact Below.refl _ _ | assumption | refine Below.drew ?_ | refine below_drewN ?_ _ | refine Below.alloc ?_ (by first | omega | (simp; done) | (simp; omega)) _ | refine Below.setCell ?_ (by first | omega | (simp; done) | (simp; omega)) _)))
    have HR := hide hR
    clear HLk HBc hR hN
    clear q0 q1 q2 q3
    go_wp2_with (first
      | (go_at_call 68; refine (builtin_any _).mono ?_; rintro e5 w5 ⟨⟨B, rfl, hown, hB1, hB2⟩, hb5⟩)
      | (at_range; refine wpList_range_own _ rfl _ 109 rfl 9 3 lawStr Tryz.underlying109 (plainElem Tryz.prog 3) B 5 biD rfl hown ?_; intro w6 hrg hg6 hs6))
    go_frame
    have hbX := bel2 (bel_grown hg6) hb5
    have hX5 := hb5.size
    have HoA := hide (own_fresh wc (base := wc.heap.size) (e := 9) (size := 1) (n := 0) (cur := #[]) (Nat.le_refl _) rfl (by decide))
    have HNF := hide (fun W (h : Below wc.heap.size wc W) => And.intro ((h.cell (p := ⟨w.heap.size, 0, none⟩) (show w.heap.size < wc.heap.size by omega)).trans n0) ((h.cell (p := ⟨w.heap.size, 4, none⟩) (show w.heap.size < wc.heap.size by omega)).trans n4))
    clear n0 n1 n2 n3 n4 n5 r0 r1 r2 rf z0 z1 z2 hb5 hg6 hs6 hown
    go_loopw [7] (fun s wr => ∃ (left : Lit → Bool) (cnt : Nat), wr.ranges Tryz.prog 9 (plainElem Tryz.prog 3) B w5.heap.size 5 biD left cnt ∧ Hid (NmRel o y left s) ∧ Hid (Below (wc.alloc (.cells #[] 9)).heap.size (wc.alloc (.cells #[] 9)) wr)) (fun _ wr => wr.rangeLeft B w5.heap.size)
    case atStart => exact ⟨_, _, hrg, HNs, hide hbX⟩
    case round =>
      clear hrg hbX
      obtain ⟨left, cnt, hrg, HNm, HbX⟩ := hrel
      have HcX := hide (show Below wc.heap.size wc wr from bel2 HbX.out ((Below.refl _ wc).alloc (Nat.le_refl _) _))
      have hszr := HbX.out.size
      go_wp2_with (first
        | (at_next; refine next_bi _ rfl _ rfl B w5.heap.size 5 left cnt rfl hrg ?_ ?_)
        | go_in)
      · intro hl0
        have hnm := HNe.out _ _ HNm.out hl0
        subst hnm
        have hoA := own_below HoA.out HbX.out
        have hcX := HcX.out
        clear hrg hl0 HNm HbX HoA HcX
        go_wp2
        go_loopw [8, 98] (fun v i wr => ∃ (k : Nat) (A' : Option Addr) (c' : Nat), v = .slice A' k c' ∧ i = .int .i64 k ∧ k ≤ l.length ∧ wr.ownsRow wc.heap.size 9 1 (.slice A' k c') k (txV l k) ∧ Below wc.heap.size wc wr) (fun _ i _ => l.length - (intOf i).toNat)
        case atStart => exact ⟨0, _, 0, rfl, rfl, by omega, hoA, hcX⟩
        case round =>
          clear hoA hcX
          obtain ⟨k, A', c', rfl, rfl, hk, hown, hbel⟩ := hrel
          have hsz := hbel.size
          by_cases hlt : k < l.length
          · rcases HA.out.below (bel2 hbel hbw) with h | ⟨g, off, rfl, hg, hc⟩
            · exact absurd hlt (by rw [h]; simp)
            obtain ⟨c1, c2, c3⟩ := pc_of_cells hc k hlt
            have hp := mem_sumL l _ (List.getElem_mem hlt)
            have HT := hide (txV_succ l k hlt)
            clear hc
            generalize l[k] = p at *
            obtain ⟨px, pl, pn⟩ := p
            simp only at c1 c2 c3 hp HT
            go_wp2_with (at_builtin; refine wpList_append_own _ rfl _ _ 46 rfl wc.heap.size 9 i0 _ 1 16 Tryz.underlying46 hi hz0 hz1 hz2 rfl (by decide) _ _ _ rfl (own_below hown (by (repeat (first | exact Below.refl _ _ | assumption | refine Below.drew ?_ | refine below_drewN ?_ _ | refine Below.alloc ?_ (by first | omega | (simp; done) | (simp; omega)) _ | refine Below.setCell ?_ (by first | omega | (simp; done) | (simp; omega)) _)))) ⟨wr.heap.size + 1, 0, none⟩ 1 1 [_] rfl rfl (by exact cells_one (heap_new1 _ _ _)) (by simp [Value.oneCell']) (by unfold maxLen; omega) (by omega) (by simp; omega) ?_; intro v' w3 hown' hgrow _)
            have hb5 := (show Below wc.heap.size wc _ from by (repeat (first | exact Below.refl _ _ | assumption | refine Below.drew ?_ | refine below_drewN ?_ _ | refine Below.alloc ?_ (by first | omega | (simp; done) | (simp; omega)) _ | refine Below.setCell ?_ (by first | omega | (simp; done) | (simp; omega)) _))).grown hgrow (by simp; omega) (fun k hk => (hown.lt k hk).1)
            obtain ⟨A2, c2, rfl⟩ := own_form hown'
            exact ⟨⟨k + 1, A2, c2, by simp, by go_num, by omega, by rw [HT.out]; exact hown', hb5⟩, by simp [intOf]; omega⟩
          · obtain rfl : k = l.length := by omega
            obtain ⟨m0, m4⟩ := HNF.out wr hbel
            have hzw : w.heap.size < wr.heap.size := by omega
            have hrow : wr.ownsRow wc.heap.size 9 1 (.slice A' l.length c') l.length ((l.map Pc.text).map str) := by
              have e : txV l l.length = (l.map Pc.text).map str := by unfold txV; rw [List.take_length]
              rw [← e]; exact hown
            clear hown
            by_cases h20 : o = 20
            · subst h20
              have e : List.intercalate [44, 32] (l.map Pc.text ++ [y]) = jj := by have := HJJ.out; rwa [if_pos rfl] at this
              have HJ := hide (fun (A2 : Option Addr) (c2 : Nat) (W : World) (h : W.ownsRow wc.heap.size 9 1 (.slice A2 (l.length + 1) c2) (l.length + 1) ((l.map Pc.text).map str ++ [str y])) => (show Calls Tryz.prog 69 #[.slice A2 (l.length + 1) c2, .string ⟨#[44, 32]⟩] W (fun e w' => e = .returned (str jj) ∧ Below W.heap.size W w') from by have := join2_any A2 c2 (l.length + 1) (l.map Pc.text ++ [y]) W wc.heap.size (by simp) (by omega) (by rw [List.map_append]; exact h) (by rw [e]; omega); rw [e] at this; exact this))
              clear e HJJ
              generalize (l.map Pc.text).map str = row at *
              go_wp2_with (at_builtin; refine wpList_append_own _ rfl _ _ 46 rfl wc.heap.size 9 i0 _ 1 16 Tryz.underlying46 hi hz0 hz1 hz2 rfl (by decide) _ _ _ rfl (own_below hrow (by (repeat (first | exact Below.refl _ _ | assumption | refine Below.drew ?_ | refine below_drewN ?_ _ | refine Below.alloc ?_ (by first | omega | (simp; done) | (simp; omega)) _ | refine Below.setCell ?_ (by first | omega | (simp; done) | (simp; omega)) _)))) ⟨wr.heap.size, 0, none⟩ 1 1 [_] rfl rfl (by exact cells_one (heap_alloc_new _ _)) (by simp [Value.oneCell']) (by unfold maxLen; omega) (by omega) (by simp; omega) ?_; intro v' w3 hown' hgrow _)
              have hb5 := (show Below wc.heap.size wc _ from by (repeat (first | exact Below.refl _ _ | assumption | refine Below.drew ?_ | refine below_drewN ?_ _ | refine Below.alloc ?_ (by first | omega | (simp; done) | (simp; omega)) _ | refine Below.setCell ?_ (by first | omega | (simp; done) | (simp; omega)) _))).grown hgrow (by simp; omega) (fun k hk => (hrow.lt k hk).1)
              obtain ⟨A2, c2, rfl⟩ := own_form hown'
              go_wp2_with (go_at_call 69; refine (HJ.out _ _ _ hown').mono ?_; rintro e w7 ⟨rfl, hb7⟩; have hb8 : Below wc.heap.size wc w7 := bel2 hb7 (by (repeat (first | exact Below.refl _ _ | assumption | refine Below.drew ?_ | refine below_drewN ?_ _ | refine Below.alloc ?_ (by first | omega | (simp; done) | (simp; omega)) _ | refine Below.setCell ?_ (by first | omega | (simp; done) | (simp; omega)) _))); have hbw8 : Below w.heap.size w w7 := bel2 hb8 hbw; have hR7 := (hb8.block _ hz).trans HR.out; obtain ⟨r0, r1, r2⟩ := cells3 hR7; have rf := free6 hR7; have hz7 := lt_of_heap hR7; obtain ⟨z0, z1, z2⟩ := set3 hR7)
              refine bodyPost_ex rfl ?_
              apply Exists.intro
              apply And.intro
              · simp [results, Tryz.results36, go_sem, z0, z1, z2]; rfl
              · exact ⟨by simp [ba_append], by (repeat (first | exact Below.refl _ _ | assumption | refine Below.drew ?_ | refine below_drewN ?_ _ | refine Below.alloc ?_ (by first | omega | (simp; done) | (simp; omega)) _ | refine Below.setCell ?_ (by first | omega | (simp; done) | (simp; omega)) _))⟩
            · have hb20 : (o == 20) = false := beq_eq_false_iff_ne.2 h20
              have e : List.intercalate [44, 32] (l.map Pc.text) = jj := by have := HJJ.out; rwa [if_neg h20, List.append_nil] at this
              have HJ := hide (show Calls Tryz.prog 69 #[.slice A' l.length c', .string ⟨#[44, 32]⟩] wr (fun e w' => e = .returned (str jj) ∧ Below wr.heap.size wr w') from by have := join2_any A' c' l.length (l.map Pc.text) wr wc.heap.size (by simp) (by omega) hrow (by rw [e]; omega); rw [e] at this; exact this)
              clear e HJJ hrow h20
              go_wp2_with (go_at_call 69; refine HJ.out.mono ?_; rintro e w7 ⟨rfl, hb7⟩; have hb8 : Below wc.heap.size wc w7 := bel2 hb7 (by (repeat (first | exact Below.refl _ _ | assumption | refine Below.drew ?_ | refine below_drewN ?_ _ | refine Below.alloc ?_ (by first | omega | (simp; done) | (simp; omega)) _ | refine Below.setCell ?_ (by first | omega | (simp; done) | (simp; omega)) _))); have hbw8 : Below w.heap.size w w7 := bel2 hb8 hbw; have hR7 := (hb8.block _ hz).trans HR.out; obtain ⟨r0, r1, r2⟩ := cells3 hR7; have rf := free6 hR7; have hz7 := lt_of_heap hR7; obtain ⟨z0, z1, z2⟩ := set3 hR7)
              refine bodyPost_ex rfl ?_
              apply Exists.intro
              apply And.intro
              · simp [results, Tryz.results36, go_sem, z0, z1, z2]; rfl
              · exact ⟨by simp [ba_append], by (repeat (first | exact Below.refl _ _ | assumption | refine Below.drew ?_ | refine below_drewN ?_ _ | refine Below.alloc ?_ (by first | omega | (simp; done) | (simp; omega)) _ | refine Below.setCell ?_ (by first | omega | (simp; done) | (simp; omega)) _))⟩
      · intro z q w1 cnt1 hkb hrg1 hlt hg1 hs1 hen
        have HbX1 := hide (HbX.out.grown hg1 (by omega) (fun k hk => by injection hk with hk; omega))
        have hcX1 := bel2 HbX1.out ((Below.refl _ wc).alloc (Nat.le_refl _) _)
        have m0 := (HNF.out w1 hcX1).1
        have hzw1 : w.heap.size < w1.heap.size := by have := hcX1.size; omega
        have hle := hrg1.left_eq
        have hle0 := hrg.left_eq
        have HKb := hide hkb
        have HRg := hide hrg1
        have HM := hide (show w1.rangeLeft B w5.heap.size < wr.rangeLeft B w5.heap.size from by rw [hle, hle0]; exact hlt)
        clear hkb hrg1 hrg hle hle0 hlt hcX1 hg1
        by_cases hco : q = o
        · subst hco
          have HN2 := hide (nm_hit (y := y) (left := left) HKb.out)
          go_wp2
          go_roundw
          case rel => exact ⟨_, _, HRg.out, HN2, HbX1⟩
          case measure => exact HM.out
        · have hb : (q == o) = false := beq_eq_false_iff_ne.2 hco
          have HN2 := hide (nm_miss HNm.out HKb.out hco)
          clear hco
          go_wp2
          go_roundw
          case rel => exact ⟨_, _, HRg.out, HN2, HbX1⟩
          case measure => exact HM.out
theorem expr_write_any (n : Nd) (l : List Pc) (A : Option Addr) (c : Nat) (w : World) (hG : GlobJ w) (hn : n.ok = true) (hl : (l.length : Int) = n.ar) (hA : PcsAt w A l) (hs : sumL l ≤ 100000) :
    Calls Tryz.prog 36 #[n.agg, .slice A l.length c] w fun e w' => e = .returned (writeS n l).agg ∧ Below w.heap.size w w' := by
  rcases node_parts hn hl hs with ⟨v, rfl, rfl, hv, hw⟩ | ⟨x, rfl, rfl, hw⟩ | ⟨p, rfl, rfl, hp, hw⟩ | ⟨p, rfl, rfl, hp, hnum, hw⟩ | ⟨p, rfl, rfl, hp, hnum, hw⟩ | ⟨o, p, q, rfl, rfl, ho, hp, hq, hw⟩ | ⟨o, y, a, rfl, ho, hl8, hy, h20, hw⟩
  · rw [hw]; exact expr_write_const v A c w hG hv
  · rw [hw]; exact expr_write_col x A c w
  · obtain ⟨g, off, rfl, hg, ha⟩ := hA.one
    rw [hw]; exact expr_write_not p g off c w ha hg hp
  · obtain ⟨g, off, rfl, hg, ha⟩ := hA.one
    rw [hw]; exact expr_write_num p g off c w ha hg hp hnum
  · obtain ⟨g, off, rfl, hg, ha⟩ := hA.one
    rw [hw]; exact expr_write_neg p g off c w ha hg hp hnum
  · obtain ⟨g, off, rfl, hg, ha, hb⟩ := hA.two
    rw [hw]; exact expr_write_bin o p q g off c w ho ha hb hg hp hq
  · rw [hw]; exact expr_write_call o y a l A c w ho hA hy hl8 hs
end Go.Proofs.YtlfedcbihbigoaaGreatDoor
