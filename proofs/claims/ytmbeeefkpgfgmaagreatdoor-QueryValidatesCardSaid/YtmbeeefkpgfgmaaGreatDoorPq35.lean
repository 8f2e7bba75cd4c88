/- Contracts: the closures of query.ValidateStep. Contracts: query.ValidateStep, query.Validate. -/
import Derived.Test.YtmbeeefkpgfgmaaGreatDoorPq34
import Derived.Test.YtmbeeefkpgfgmaaGreatDoorPq07
import Derived.Deep.RegionHeld3
import Derived.RegionTactic
import Derived.ChangeAlike
import Derived.BigRegion
set_option linter.unusedVariables false
set_option linter.unusedSimpArgs false
namespace Go.Proofs.YtmbeeefkpgfgmaaGreatDoor
open Go.RowKit
def BoxAt (w : World) (b : Nat) (s : Stp) (a : Adr) : Prop := b < w.heap.size ∧ w.cell? ⟨b, 0, none⟩ = some (.int .i64 s.op) ∧ w.cell? ⟨b, 1, none⟩ = some (str s.src) ∧ w.cell? ⟨b, 2, none⟩ = some (.slice a.nA s.names.length a.nC) ∧ w.cell? ⟨b, 3, none⟩ = some (.slice a.oA s.others.length a.oC) ∧ w.cell? ⟨b, 4, none⟩ = some (.slice a.iA s.items.length a.iC) ∧ w.cell? ⟨b, 5, none⟩ = some (.slice a.cA s.cond.length a.cC)
theorem BoxAt.below {w w' : World} {b : Nat} {s : Stp} {a : Adr} (h : BoxAt w b s a) (hb : Below w.heap.size w w') : BoxAt w' b s a := by
  obtain ⟨h0, c0, c1, c2, c3, c4, c5⟩ := h
  exact ⟨Nat.lt_of_lt_of_le h0 hb.size, (hb.cell (p := ⟨b, _, none⟩) h0).trans c0, (hb.cell (p := ⟨b, _, none⟩) h0).trans c1, (hb.cell (p := ⟨b, _, none⟩) h0).trans c2, (hb.cell (p := ⟨b, _, none⟩) h0).trans c3, (hb.cell (p := ⟨b, _, none⟩) h0).trans c4, (hb.cell (p := ⟨b, _, none⟩) h0).trans c5⟩
theorem vs1_thunk (b : Nat) (s : Stp) (a : Adr) (w : World) (hW : StrVar w 2 wordsS) (hB : BoxAt w b s a) (ho : s.ok) : Thunk w 37 #[atB0 b] (readE s.src) := by
  refine ⟨fun args W => by kernel_rfl, fun W hW2 => ?_⟩
  obtain ⟨hb, c0, c1, c2, c3, c4, c5⟩ := hB.below hW2
  have HM := hide (show Calls Tryz.prog 38 #[str s.src, .bool true] W (fun e w' => e = .returned (.int .i64 (readE s.src)) ∧ Below W.heap.size W w') from query_source_any s.src true W (hW.below hW2) ho.src)
  clear hW hB ho hW2
  generalize readE s.src = v at *
  go_enter Tryz.func37, Tryz.ntmps37
  go_wp2_with (go_at_call 38; refine (HM.out).mono ?_; rintro e w1 ⟨rfl, hb1⟩)
  go_ret
  exact ⟨rfl, hb1⟩
theorem vs_2_1_thunk (b : Nat) (s : Stp) (a : Adr) (w : World) (hW : StrVar w 2 wordsS) (hB : BoxAt w b s a) (hA : s.At w a) (ho : s.ok) : Thunk w 41 #[atB0 b] (listS s.names 1) := by
  refine ⟨fun args W => by kernel_rfl, fun W hW2 => ?_⟩
  obtain ⟨hb, c0, c1, c2, c3, c4, c5⟩ := hB.below hW2
  have HM := hide (query_list_any a.nA s.names a.nC 1 W (hW.below hW2) (hA.names.below hW2) ho.names (by omega) hA.cn)
  clear hW hB hA ho hW2
  generalize listS s.names 1 = v at *
  go_enter Tryz.func41, Tryz.ntmps41
  go_wp2_with (go_at_call 42; refine (HM.out).mono ?_; rintro e w1 ⟨rfl, hb1⟩)
  go_ret
  exact ⟨rfl, hb1⟩
theorem vs_2_2_thunk (b : Nat) (s : Stp) (a : Adr) (w : World) (hW : StrVar w 2 wordsS) (hB : BoxAt w b s a) (hA : s.At w a) (ho : s.ok) : Thunk w 43 #[atB0 b] (listS s.others 1) := by
  refine ⟨fun args W => by kernel_rfl, fun W hW2 => ?_⟩
  obtain ⟨hb, c0, c1, c2, c3, c4, c5⟩ := hB.below hW2
  have HM := hide (query_list_any a.oA s.others a.oC 1 W (hW.below hW2) (hA.others.below hW2) ho.others (by omega) hA.co)
  clear hW hB hA ho hW2
  generalize listS s.others 1 = v at *
  go_enter Tryz.func43, Tryz.ntmps43
  go_wp2_with (go_at_call 42; refine (HM.out).mono ?_; rintro e w1 ⟨rfl, hb1⟩)
  go_ret
  exact ⟨rfl, hb1⟩
theorem vs_5_thunk (b : Nat) (s : Stp) (a : Adr) (w : World) (hW : StrVar w 2 wordsS) (hB : BoxAt w b s a) (hA : s.At w a) (ho : s.ok) : Thunk w 51 #[atB0 b] (listS s.names 0) := by
  refine ⟨fun args W => by kernel_rfl, fun W hW2 => ?_⟩
  obtain ⟨hb, c0, c1, c2, c3, c4, c5⟩ := hB.below hW2
  have HM := hide (query_list_any a.nA s.names a.nC 0 W (hW.below hW2) (hA.names.below hW2) ho.names (by omega) hA.cn)
  clear hW hB hA ho hW2
  generalize listS s.names 0 = v at *
  go_enter Tryz.func51, Tryz.ntmps51
  go_wp2_with (go_at_call 42; refine (HM.out).mono ?_; rintro e w1 ⟨rfl, hb1⟩)
  go_ret
  exact ⟨rfl, hb1⟩
theorem vs_7_thunk (b : Nat) (s : Stp) (a : Adr) (w : World) (hW : StrVar w 2 wordsS) (hB : BoxAt w b s a) (hA : s.At w a) (ho : s.ok) : Thunk w 55 #[atB0 b] (listS s.names 0) := by
  refine ⟨fun args W => by kernel_rfl, fun W hW2 => ?_⟩
  obtain ⟨hb, c0, c1, c2, c3, c4, c5⟩ := hB.below hW2
  have HM := hide (query_list_any a.nA s.names a.nC 0 W (hW.below hW2) (hA.names.below hW2) ho.names (by omega) hA.cn)
  clear hW hB hA ho hW2
  generalize listS s.names 0 = v at *
  go_enter Tryz.func55, Tryz.ntmps55
  go_wp2_with (go_at_call 42; refine (HM.out).mono ?_; rintro e w1 ⟨rfl, hb1⟩)
  go_ret
  exact ⟨rfl, hb1⟩
theorem vs_8_thunk (b : Nat) (s : Stp) (a : Adr) (w : World) (hW : StrVar w 2 wordsS) (hB : BoxAt w b s a) (hA : s.At w a) (ho : s.ok) : Thunk w 56 #[atB0 b] (listS s.others 0) := by
  refine ⟨fun args W => by kernel_rfl, fun W hW2 => ?_⟩
  obtain ⟨hb, c0, c1, c2, c3, c4, c5⟩ := hB.below hW2
  have HM := hide (query_list_any a.oA s.others a.oC 0 W (hW.below hW2) (hA.others.below hW2) ho.others (by omega) hA.co)
  clear hW hB hA ho hW2
  generalize listS s.others 0 = v at *
  go_enter Tryz.func56, Tryz.ntmps56
  go_wp2_with (go_at_call 42; refine (HM.out).mono ?_; rintro e w1 ⟨rfl, hb1⟩)
  go_ret
  exact ⟨rfl, hb1⟩
theorem vs3_any (x : It) (E : Option Addr) (ec : Nat) (w : World) (hW : StrVar w 2 wordsS) (hn : NdsAt w E x.expr) (ho : x.ok) : Calls Tryz.prog 47 (#[itV x E ec] ++ #[]) w fun e w' => e = .returned (.int .i64 (validE x.expr)) ∧ Below w.heap.size w w' := by
  have HM := hide (fun W (hb : Below w.heap.size w W) => expr_Validate_any E x.expr ec W (hW.below hb) (hn.below hb) ho.2 ho.1)
  clear hW hn ho
  obtain ⟨xn, xf, xc, xm, xe⟩ := x
  simp only at HM
  show Calls Tryz.prog 47 #[.agg #[str xn, .int .i64 xf, str xc, .int .i64 xm, .slice E xe.length ec]] w _
  generalize validE xe = v at *
  generalize xe.length = le at *
  go_enter Tryz.func47, Tryz.ntmps47
  go_wp2_with (go_at_call 45; refine (HM.out _ zX).mono ?_; rintro e w1 ⟨rfl, hb1⟩)
  go_ret
  exact ⟨rfl, bel2 hb1 zX⟩
theorem vs4_1_any (x : It) (E : Option Addr) (ec : Nat) (w : World) (hW : StrVar w 2 wordsS) : Calls Tryz.prog 49 (#[itV x E ec] ++ #[]) w fun e w' => e = .returned (.int .i64 (nameE x.col)) ∧ Below w.heap.size w w' := by
  have HM := hide (fun W (hb : Below w.heap.size w W) => query_name_any x.col W (hW.below hb))
  clear hW
  obtain ⟨xn, xf, xc, xm, xe⟩ := x
  simp only at HM
  show Calls Tryz.prog 49 #[.agg #[str xn, .int .i64 xf, str xc, .int .i64 xm, .slice E xe.length ec]] w _
  generalize nameE xc = v at *
  generalize xe.length = le at *
  go_enter Tryz.func49, Tryz.ntmps49
  go_wp2_with (go_at_call 50; refine (HM.out _ zX).mono ?_; rintro e w1 ⟨rfl, hb1⟩)
  go_ret
  exact ⟨rfl, bel2 hb1 zX⟩
theorem vs6_1_any (b : Nat) (s : Stp) (a : Adr) (x : It) (E : Option Addr) (ec : Nat) (w : World) (hW : StrVar w 2 wordsS) (hB : BoxAt w b s a) (hA : s.At w a) (ho : s.ok) : Calls Tryz.prog 53 (#[itV x E ec] ++ #[atB0 b]) w fun e w' => e = .returned (.int .i64 (groupE s.names x)) ∧ Below w.heap.size w w' := by
  have HM := hide (fun W (hb : Below w.heap.size w W) => show Calls Tryz.prog 54 #[.agg #[.int .i64 s.op, str s.src, .slice a.nA s.names.length a.nC, .slice a.oA s.others.length a.oC, .slice a.iA s.items.length a.iC, .slice a.cA s.cond.length a.cC], .agg #[str x.name, .int .i64 x.fn, str x.col, .int .i64 x.num, .slice E x.expr.length ec]] W (fun e w' => e = .returned (.int .i64 (groupE s.names x)) ∧ Below W.heap.size W w') from query_grouped_any s a x E ec W (hW.below hb) (hA.names.below hb) ho.names)
  have HB := hide (fun W (hb : Below w.heap.size w W) => hB.below hb)
  clear hW hB hA ho
  show Calls Tryz.prog 53 #[.agg #[str x.name, .int .i64 x.fn, str x.col, .int .i64 x.num, .slice E x.expr.length ec], atB0 b] w _
  generalize groupE s.names x = v at *
  obtain ⟨hb, c0, c1, c2, c3, c4, c5⟩ := HB.out (w.alloc (.cells #[str x.name, .int .i64 x.fn, str x.col, .int .i64 x.num, .slice E x.expr.length ec] 61)) zX
  generalize x.expr.length = le at *
  generalize s.names.length = l1 at *
  generalize s.others.length = l2 at *
  generalize s.items.length = l3 at *
  generalize s.cond.length = l4 at *
  go_enter Tryz.func53, Tryz.ntmps53
  go_wp2_with (go_at_call 54; refine (HM.out _ zX).mono ?_; rintro e w1 ⟨rfl, hb1⟩)
  go_ret
  exact ⟨rfl, bel2 hb1 zX⟩
end Go.Proofs.YtmbeeefkpgfgmaaGreatDoor
namespace Go.Proofs.YtmbeeefkpgfgmaaGreatDoor
open Go.RowKit
theorem calls_int {f : FuncId} {args : Array Value} {w : World} {a b : Int} (H : Calls Tryz.prog f args w fun e w' => e = .returned (.int .i64 a) ∧ Below w.heap.size w w') (h : a = b) : Calls Tryz.prog f args w fun e w' => e = .returned (.int .i64 b) ∧ Below w.heap.size w w' := by
  subst h
  exact H
def pairE (s : Stp) : Int := thenE (readE s.src) (thenE (listS s.names 1) (thenE (listS s.others 1) (if s.names.length = s.others.length then 0 else 8)))
theorem then_assoc (a b c : Int) : thenE (thenE a b) c = thenE a (thenE b c) := by
  unfold thenE
  by_cases ha : a = 0
  · subst ha
    by_cases hb : b = 0
    · subst hb; rfl
    · simp [hb]
  · simp [ha]
theorem join_pair (s : Stp) : joinS s = thenE (pairE s) (itemsS s.items 0 false true false false fun x => nameE x.col) := by
  unfold joinS pairE
  rw [then_assoc, then_assoc, then_assoc]
theorem join_none {s : Stp} (h : s.items = []) : joinS s = pairE s := by
  rw [join_pair, h]
  show thenE (pairE s) 0 = pairE s
  unfold thenE
  split
  · rename_i h; exact h.symm
  · rfl
theorem two (a b : Int) : firstE (fun j => [a, b].getD j 0) 2 = thenE a b := by
  by_cases ha : a = 0 <;> simp [firstE, thenE, ha]
theorem three (a b c : Int) : firstE (fun j => [a, b, c].getD j 0) 3 = thenE a (thenE b c) := by
  by_cases ha : a = 0 <;> by_cases hb : b = 0 <;> simp [firstE, thenE, ha, hb]
theorem four (a b c d : Int) : firstE (fun j => [a, b, c, d].getD j 0) 4 = thenE a (thenE b (thenE c d)) := by
  by_cases ha : a = 0 <;> by_cases hb : b = 0 <;> by_cases hc : c = 0 <;> simp [firstE, thenE, ha, hb, hc]
theorem group_then (s : Stp) : groupS s = thenE (listS s.names 0) (thenE (if s.names.length + s.items.length = 0 then 2 else 0) (itemsS s.items 0 true true false false (groupE s.names))) := by
  unfold groupS
  congr 1
  by_cases h : s.names.length + s.items.length = 0
  · rw [if_pos h, if_pos h]; rfl
  · rw [if_neg h, if_neg h]; rfl
set_option maxRecDepth 100000 in
set_option maxHeartbeats 4000000 in
theorem vs2_thunk (b3 b : Nat) (s : Stp) (a : Adr) (w : World) (hW : StrVar w 2 wordsS) (hB : BoxAt w b s a) (h3 : b3 < w.heap.size) (hf : w.cell? ⟨b3, 0, none⟩ = some (.func (.func 37) #[] #[atB0 b])) (hA : s.At w a) (ho : s.ok) : Thunk w 39 #[atB0 b3, atB0 b] (pairE s) := by
  refine ⟨fun args W => by kernel_rfl, fun W hW2 => ?_⟩
  obtain ⟨hb, c0, c1, c2, c3, c4, c5⟩ := hB.below hW2
  have hb3 := Nat.lt_of_lt_of_le h3 hW2.size
  have cf := (hW2.cell (p := ⟨b3, 0, none⟩) h3).trans hf
  have HT1 := hide (fun V (h : Below W.heap.size W V) => vs1_thunk b s a V ((hW.below hW2).below h) ((hB.below hW2).below h) ho)
  have HT2 := hide (fun V (h : Below W.heap.size W V) => vs_2_1_thunk b s a V ((hW.below hW2).below h) ((hB.below hW2).below h) ((hA.below hW2).below h) ho)
  have HT3 := hide (fun V (h : Below W.heap.size W V) => vs_2_2_thunk b s a V ((hW.below hW2).below h) ((hB.below hW2).below h) ((hA.below hW2).below h) ho)
  have HX := hide (show pairE s = thenE (readE s.src) (thenE (listS s.names 1) (thenE (listS s.others 1) (if s.names.length = s.others.length then 0 else 8))) from rfl)
  have hl1 := ho.names
  have hl2 := ho.others
  clear hW hB hA ho hW2 hf h3
  generalize pairE s = r at *
  generalize readE s.src = e1 at *
  generalize listS s.names 1 = e2 at *
  generalize listS s.others 1 = e3 at *
  generalize s.names.length = ln at *
  generalize s.others.length = lo at *
  have HS := hide (fun w' (hbb : Below W.heap.size W w') => show w'.cell? ⟨b3, 0, none⟩ = some (.func (.func 37) #[] #[atB0 b]) ∧ w'.cell? ⟨b, 2, none⟩ = some (.slice a.nA ln a.nC) ∧ w'.cell? ⟨b, 3, none⟩ = some (.slice a.oA lo a.oC) ∧ Below W.heap.size W w' from
    ⟨(hbb.cell (p := ⟨b3, 0, none⟩) hb3).trans cf, (hbb.cell (p := ⟨b, 2, none⟩) hb).trans c2, (hbb.cell (p := ⟨b, 3, none⟩) hb).trans c3, hbb⟩)
  clear c0 c1 c2 c3 c4 c5 cf
  go_enter Tryz.func39, Tryz.ntmps39
  go_wp2
  refine wp_region_held_drew (S := (fun w' => w'.cell? ⟨b3, 0, none⟩ = some (.func (.func 37) #[] #[atB0 b]) ∧ w'.cell? ⟨b, 2, none⟩ = some (.slice a.nA ln a.nC) ∧ w'.cell? ⟨b, 3, none⟩ = some (.slice a.oA lo a.oC) ∧ Below W.heap.size W w')) (by kernel_rfl) (by (try dsimp only); exact HS.out _ (Below.drew (Below.refl _ _))) (fun hHeld => ?_)
  refine zT 0 ?_; refine zT 1 ?_; refine zT 2 ?_; refine zT 3 ?_; refine zT 4 ?_; refine zT 5 ?_; refine zT 6 ?_; refine zT 7 ?_; refine zT 8 ?_; refine zT 9 ?_
  refine zR 10 (fun K hK => ?_)
  go_simp
  go_wp2_with (go_at_call 44; refine (when_thunk _ _ _).mono ?_; rintro e q1 ⟨⟨lb, v, rfl, hv, ht⟩, hb1⟩; have hq1 := bel2 hb1 (show Below W.heap.size W _ from Below.drew (Below.refl _ _)); have HT := hide ht; have HV := hide hv; clear ht hv)
  refine zB hK (HS.out _ hq1) (fun hHeld => ?_)
  clear hK K
  refine zR 11 (fun K hK => ?_)
  go_simp
  refine zB hK (HS.out _ (hq1.alloc hq1.size _)) (fun hHeld => ?_)
  clear hK K
  have hfin : firstE (fun j => (([⟨37, #[atB0 b], e1⟩, ⟨41, #[atB0 b], e2⟩, ⟨43, #[atB0 b], e3⟩, ⟨90, lb, v⟩] : List Thk).map Thk.v).getD j 0) 4 = r := by
    rw [HX.out]
    have hv2 : v = if ln = lo then 0 else 8 := by
      rw [HV.out]
      by_cases h : ln = lo
      · simp [h]
      · have h9 : ¬ (ln : Int) = (lo : Int) := by omega
        simp [h, h9]
    rw [← hv2, ← four]
    rfl
  have B1 : Below q1.heap.size q1 (q1.alloc (.cells #[.func (.func 37) #[] #[atB0 b], .func (.func 41) #[] #[atB0 b], .func (.func 43) #[] #[atB0 b], .func (.func 90) #[] lb] 73)) := (Below.refl _ _).alloc (Nat.le_refl _) _
  have B0 := bel2 B1 hq1
  have T1 := hide (HT1.out _ B0)
  have T2 := hide (HT2.out _ B0)
  have T3 := hide (HT3.out _ B0)
  have T4 := hide (HT.out.below B1)
  have HFst := hide (calls_int (first_thunks q1.heap.size 4 [⟨37, #[atB0 b], e1⟩, ⟨41, #[atB0 b], e2⟩, ⟨43, #[atB0 b], e3⟩, ⟨90, lb, v⟩] (q1.alloc (.cells #[.func (.func 37) #[] #[atB0 b], .func (.func 41) #[] #[atB0 b], .func (.func 43) #[] #[atB0 b], .func (.func 90) #[] lb] 73)) (by simp) (show (4 : Nat) ≤ 10 from by decide) (fun j h => by
      have h9 : j < 4 := h
      match j, h9 with
      | 0, _ => simp [go_sem]
      | 1, _ => simp [go_sem]
      | 2, _ => simp [go_sem]
      | 3, _ => simp [go_sem]) (fun j h => by
      have h9 : j < 4 := h
      match j, h9 with
      | 0, _ => exact T1.out
      | 1, _ => exact T2.out
      | 2, _ => exact T3.out
      | 3, _ => exact T4.out)) hfin)
  refine zR 12 (fun K hK => ?_)
  go_simp
  go_wp2_with (go_at_call 40; go_loud (refine (HFst.out).mono ?_; rintro e q8 ⟨rfl, hb8⟩; have hq8 := bel2 hb8 B0))
  refine zB hK (HS.out _ hq8) (fun hHeld => ?_)
  clear hK K
  refine zR 13 (fun K hK => ?_)
  go_simp
  refine zB hK (by (try dsimp only); assumption) (fun hHeld => ?_)
  clear hK K
  refine wpAnyH_done (by kernel_rfl) ?_ _
  go_wp2
  go_ret
  exact ⟨rfl, hq8⟩
end Go.Proofs.YtmbeeefkpgfgmaaGreatDoor
