/- ExprValidates: the law returns true (law8.ExprValidates). -/
import Derived.Test.YtlfedcbihbigoaaDoorTotJ
import Derived.Test.YtlfedcbihbigoaaDoorColB
import Derived.Test.YtlfedcbihbigoaaDoorTypB
import Derived.Laws.AppendOwnNone
import Derived.RegionTactic
import Derived.ChangeAlike
import Derived.Deep.RegionWith
set_option linter.unusedVariables false
set_option linter.unusedSimpArgs false
namespace Go.Proofs.YtlfedcbihbigoaaDoor
open Go.RowKit
theorem mask_7' (i : Int) : bits .and .i64 i 7 = i % 8 := by
  show IntKind.i64.wrap ((BitVec.ofInt 64 i &&& BitVec.ofInt 64 7).toNat : Int) = _
  have h : (BitVec.ofInt 64 (7 : Int)).toNat = 2 ^ 3 - 1 := by decide
  rw [BitVec.toNat_and, h, Nat.and_two_pow_sub_one_eq_mod, IntKind.wrap_i64]
  simp only [BitVec.toNat_ofInt]
  omega
theorem NamesOk.append {a b : List Nd} (h : NamesOk a) (k : NamesOk b) : NamesOk (a ++ b) := fun n hn => by
  rcases List.mem_append.1 hn with hn | hn
  · exact h n hn
  · exact k n hn
/-- The fourth call: an expression is built, then looked at. -/
def MadeOk (w : World) (L : Option Addr) (l : List Int) (lc : Nat) (n : Int) : Prop := ∀ W, Below w.heap.size w W → Calls Tryd.prog 8 #[.slice L l.length lc, .int .i64 n] W fun e w' => (∃ (es : List Nd) (A : Option Addr) (c : Nat), e = .returned (.slice A es.length c) ∧
    ∀ W', Below w'.heap.size w' W' → Calls Tryd.prog 9 #[.slice A es.length c] W' fun e2 w2 => e2 = .returned (.int .i64 0) ∧ Below W'.heap.size W' w2) ∧ Below W.heap.size W w'
theorem made_ok (w : World) (L : Option Addr) (l : List Int) (lc : Nat) (n : Int) (hL : IntsAt w L l) (hW : StrVar w 0 wordsS) : MadeOk w L l lc n := by
  intro W hb
  refine (law8_made_any L l lc n W (hL.below hb)).mono ?_
  rintro e w' ⟨⟨es, g, A, c, rfl, own⟩, hb1⟩
  refine ⟨⟨es, A, c, rfl, fun W' hb2 => ?_⟩, hb1⟩
  have h := expr_Validate_any A es c W' (hW.below (bel2 hb2 (bel2 hb1 hb))) (NdsAt.below (NdsAt_of_own own) hb2) (by have := g.short (Nat.le_refl 4); omega) g.names
  rw [g.valid (Nat.le_refl 4)] at h
  exact h
set_option maxRecDepth 100000 in
set_option maxHeartbeats 8000000 in
theorem law8_ExprValidates_any (A : Option Addr) (es : List Nd) (rc : Nat) (op k m a : Int) (x nm : ByteArray) (L : Option Addr) (l : List Int) (lc : Nat) (n : Int) (w : World) (hW : StrVar w 0 wordsS) (hE : NdsAt w A es) (hx : NamesOk es) (hL : IntsAt w L l) :
    Calls Tryd.prog 3 #[.slice A es.length rc, ndV op k m x nm a, .slice L l.length lc, .int .i64 n] w fun e w' => e = .returned (.bool true) ∧ Below w.heap.size w w' := by
  have HW := hide hW; have HE := hide hE; have HL := hide hL; have HX := hide hx
  clear hW hE hL hx
  by_cases h4 : es.length ≤ 400
  rotate_left
  · have hd : decide (es.length ≤ 400) = false := by simpa using h4
    go_enter Tryd.func3, Tryd.ntmps3
    go_wp2_with (go_at_call 5; refine (law8_light_any _ _ _ _).mono ?_; rintro e w' ⟨rfl, rfl⟩)
    refine (law8_plain_any _ (HW.out.below (by (repeat (first | exact Below.refl _ _ | assumption | refine Below.drew ?_ | refine below_drewN ?_ _ | refine Below.alloc ?_ (by first | omega | (simp; done) | (simp; omega)) _ | refine Below.setCell ?_ (by first | omega | (simp; done) | (simp; omega)) _))))).mono ?_
    rintro e w1 ⟨rfl, hb1⟩
    go_wp2
    go_ret
    exact ⟨rfl, Below.trans (by (repeat (first | exact Below.refl _ _ | assumption | refine Below.drew ?_ | refine below_drewN ?_ _ | refine Below.alloc ?_ (by first | omega | (simp; done) | (simp; omega)) _ | refine Below.setCell ?_ (by first | omega | (simp; done) | (simp; omega)) _))) (hb1.mono (by simp))⟩
  have hd : decide (es.length ≤ 400) = true := by simpa using h4
  have q7 := mask_7'
  obtain ⟨mm, hmm⟩ : ∃ mm : Nat, n % 8 = (mm : Int) := ⟨(n % 8).toNat, by omega⟩
  have hm8 : mm ≤ 10 := by omega
  obtain ⟨i0, hi, hz0, hz1, hz2⟩ := info_parts Tryd.info_nd
  go_enter Tryd.func3, Tryd.ntmps3
  go_wp2_with (go_at_call 5; refine (law8_light_any _ _ _ _).mono ?_; rintro e w' ⟨rfl, rfl⟩)
  generalize hW0 : w.alloc _ = W0 at *
  have hb0 : Below w.heap.size w W0 := by subst hW0; exact Below.alloc (Below.refl _ _) (Nat.le_refl _) _
  have hx0 : W0.heap[w.heap.size]? = some (ndBox op k m x nm a) := by subst hW0; exact heap_alloc_new w _
  clear hW0
  refine (base_Nodes_any L l lc mm W0 (HL.out.below hb0) hm8).mono ?_
  rintro e w1 ⟨⟨es1, rfl, hn1, A1, c1, rfl, o1⟩, hb1⟩
  have hbw1 := bel2 hb1 hb0
  go_wp2_with fail
  refine (law8_made_any L l lc _ w1 (HL.out.below hbw1)).mono ?_
  rintro e w2 ⟨⟨es2, g2, A2, c2, rfl, o2⟩, hb2⟩
  have hbw2 := bel2 hb2 hbw1
  have o1' := own_below o1 hb2
  have hs2 := g2.short (Nat.le_refl 4)
  have hsz2 := hbw2.size
  have hs0 := hb0.size
  have hlx := lt_of_heap hx0
  rcases o1'.2 with ⟨hv, hn0⟩ | ⟨g, cap, cur, hv, hgs, hh, hnc, hcapm, hsz3, htk⟩
  · injection hv with e1 e2 e3
    subst e1 e3
    obtain rfl : es1 = [] := List.eq_nil_of_length_eq_zero hn0
    simp only [List.length_nil] at *
    go_wp2_with (at_builtin; refine wpList_append_own_none rfl _ _ _ rfl _ 26 i0 6 Tryd.underlying22 hi _ _ _ rfl o2 rfl ?_)
    have hbwF := hbw2
    have hbF1 := hb2
    have HV1 := hide (fun W (h : Below w2.heap.size w2 W) => expr_Validate_any A es rc W (HW.out.below (bel2 h hbwF)) (HE.out.below (bel2 h hbwF)) (by omega) HX.out)
    have HR1 := hide (fun W (h : Below w2.heap.size w2 W) => ref8_Validate_any A es rc W (HE.out.below (bel2 h hbwF)) (by omega) HX.out)
    have HV2 := hide (fun W (h : Below w2.heap.size w2 W) => expr_Validate_any Option.none ([] : List Nd) 0 W (HW.out.below (bel2 h hbwF)) ((NdsAt_of_own o1).below (bel2 h hbF1)) (by simp) hn1)
    have HR2 := hide (fun W (h : Below w2.heap.size w2 W) => ref8_Validate_any Option.none ([] : List Nd) 0 W ((NdsAt_of_own o1).below (bel2 h hbF1)) (by simp) hn1)
    simp only [List.length_nil] at HV2 HR2
    have HM := hide (fun W (h : Below w2.heap.size w2 W) => made_ok w L l lc n HL.out HW.out W (bel2 h hbwF))
    have HAr := hide (fun W => expr_Arity_any op k m a x nm W)
    have HBr := hide (fun W => ref8_Arity_any op k m a x nm W)
    have HP := hide (fun W (h : Below w2.heap.size w2 W) => law8_plain_any W (HW.out.below (bel2 h hbwF)))
    have HBx := hide (fun W (h : Below w2.heap.size w2 W) => cells6_of (((bel2 h (bel2 hbF1 hb1)).block _ hlx).trans hx0))
    have HV3 := hide (fun W (h : Below w2.heap.size w2 W) => expr_Validate_any A2 es2 c2 W (HW.out.below (bel2 h hbwF)) ((NdsAt_of_own o2).below h) (by omega) g2.names)
    have HR3 := hide (fun W (h : Below w2.heap.size w2 W) => ref8_Validate_any A2 es2 c2 W ((NdsAt_of_own o2).below h) (by omega) g2.names)
    generalize hv3 : validE es2 = y3 at *
    clear hv3
    generalize hv1 : validE es = y1 at *
    generalize hv2 : validE [] = y2 at *
    generalize har : arityN op a = y4 at *
    clear hv1 hv2 har
    have hcf := Below.refl w2.heap.size w2
    (go_region_with (first
      | (go_at_call_of 9 (Value.slice A es.length rc); refine (HV1.out _ (by (repeat (first | exact Below.refl _ _ | assumption | refine Below.drew ?_ | refine below_drewN ?_ _ | refine Below.alloc ?_ (by first | omega | (simp; done) | (simp; omega)) _ | refine Below.setCell ?_ (by first | omega | (simp; done) | (simp; omega)) _)))).mono ?_; rintro e w6 ⟨rfl, hb⟩; have hcf : Below w2.heap.size w2 w6 := bel2 hb (by (repeat (first | exact Below.refl _ _ | assumption | refine Below.drew ?_ | refine below_drewN ?_ _ | refine Below.alloc ?_ (by first | omega | (simp; done) | (simp; omega)) _ | refine Below.setCell ?_ (by first | omega | (simp; done) | (simp; omega)) _))))
      | (go_at_call_of 10 (Value.slice A es.length rc); refine (HR1.out _ (by (repeat (first | exact Below.refl _ _ | assumption | refine Below.drew ?_ | refine below_drewN ?_ _ | refine Below.alloc ?_ (by first | omega | (simp; done) | (simp; omega)) _ | refine Below.setCell ?_ (by first | omega | (simp; done) | (simp; omega)) _)))).mono ?_; rintro e w6 ⟨rfl, hb⟩; have hcf : Below w2.heap.size w2 w6 := bel2 hb (by (repeat (first | exact Below.refl _ _ | assumption | refine Below.drew ?_ | refine below_drewN ?_ _ | refine Below.alloc ?_ (by first | omega | (simp; done) | (simp; omega)) _ | refine Below.setCell ?_ (by first | omega | (simp; done) | (simp; omega)) _))))
      | (go_at_call_of 9 (Value.slice Option.none 0 0); refine (HV2.out _ (by (repeat (first | exact Below.refl _ _ | assumption | refine Below.drew ?_ | refine below_drewN ?_ _ | refine Below.alloc ?_ (by first | omega | (simp; done) | (simp; omega)) _ | refine Below.setCell ?_ (by first | omega | (simp; done) | (simp; omega)) _)))).mono ?_; rintro e w6 ⟨rfl, hb⟩; have hcf : Below w2.heap.size w2 w6 := bel2 hb (by (repeat (first | exact Below.refl _ _ | assumption | refine Below.drew ?_ | refine below_drewN ?_ _ | refine Below.alloc ?_ (by first | omega | (simp; done) | (simp; omega)) _ | refine Below.setCell ?_ (by first | omega | (simp; done) | (simp; omega)) _))))
      | (go_at_call_of 10 (Value.slice Option.none 0 0); refine (HR2.out _ (by (repeat (first | exact Below.refl _ _ | assumption | refine Below.drew ?_ | refine below_drewN ?_ _ | refine Below.alloc ?_ (by first | omega | (simp; done) | (simp; omega)) _ | refine Below.setCell ?_ (by first | omega | (simp; done) | (simp; omega)) _)))).mono ?_; rintro e w6 ⟨rfl, hb⟩; have hcf : Below w2.heap.size w2 w6 := bel2 hb (by (repeat (first | exact Below.refl _ _ | assumption | refine Below.drew ?_ | refine below_drewN ?_ _ | refine Below.alloc ?_ (by first | omega | (simp; done) | (simp; omega)) _ | refine Below.setCell ?_ (by first | omega | (simp; done) | (simp; omega)) _))))
      | (go_at_call_of 9 (Value.slice A2 es2.length c2); refine (HV3.out _ (by (repeat (first | exact Below.refl _ _ | assumption | refine Below.drew ?_ | refine below_drewN ?_ _ | refine Below.alloc ?_ (by first | omega | (simp; done) | (simp; omega)) _ | refine Below.setCell ?_ (by first | omega | (simp; done) | (simp; omega)) _)))).mono ?_; rintro e w6 ⟨rfl, hb⟩; have hcf : Below w2.heap.size w2 w6 := bel2 hb (by (repeat (first | exact Below.refl _ _ | assumption | refine Below.drew ?_ | refine below_drewN ?_ _ | refine Below.alloc ?_ (by first | omega | (simp; done) | (simp; omega)) _ | refine Below.setCell ?_ (by first | omega | (simp; done) | (simp; omega)) _))))
      | (go_at_call_of 10 (Value.slice A2 es2.length c2); refine (HR3.out _ (by (repeat (first | exact Below.refl _ _ | assumption | refine Below.drew ?_ | refine below_drewN ?_ _ | refine Below.alloc ?_ (by first | omega | (simp; done) | (simp; omega)) _ | refine Below.setCell ?_ (by first | omega | (simp; done) | (simp; omega)) _)))).mono ?_; rintro e w6 ⟨rfl, hb⟩; have hcf : Below w2.heap.size w2 w6 := bel2 hb (by (repeat (first | exact Below.refl _ _ | assumption | refine Below.drew ?_ | refine below_drewN ?_ _ | refine Below.alloc ?_ (by first | omega | (simp; done) | (simp; omega)) _ | refine Below.setCell ?_ (by first | omega | (simp; done) | (simp; omega)) _))))
      | (go_at_call 8; refine (HM.out _ (by (repeat (first | exact Below.refl _ _ | assumption | refine Below.drew ?_ | refine below_drewN ?_ _ | refine Below.alloc ?_ (by first | omega | (simp; done) | (simp; omega)) _ | refine Below.setCell ?_ (by first | omega | (simp; done) | (simp; omega)) _)))).mono ?_; rintro e w6 ⟨⟨es4, A4, c4, rfl, hv4⟩, hb⟩; have hcf : Below w2.heap.size w2 w6 := bel2 hb (by (repeat (first | exact Below.refl _ _ | assumption | refine Below.drew ?_ | refine below_drewN ?_ _ | refine Below.alloc ?_ (by first | omega | (simp; done) | (simp; omega)) _ | refine Below.setCell ?_ (by first | omega | (simp; done) | (simp; omega)) _))); have HV4 := hide hv4; clear hv4)
      | (go_at_call_of 9 (Value.slice A4 es4.length c4); refine (HV4.out _ (Below.refl _ _)).mono ?_; rintro e w6 ⟨rfl, hb⟩; have hcf : Below w2.heap.size w2 w6 := bel2 hb (by (repeat (first | exact Below.refl _ _ | assumption | refine Below.drew ?_ | refine below_drewN ?_ _ | refine Below.alloc ?_ (by first | omega | (simp; done) | (simp; omega)) _ | refine Below.setCell ?_ (by first | omega | (simp; done) | (simp; omega)) _))); obtain ⟨n0, n1, n2, n3, n4, n5⟩ := HBx.out _ hcf)
      | (go_at_call 11; refine (HAr.out _).mono ?_; rintro e w6 ⟨rfl, hb⟩; have hcf : Below w2.heap.size w2 w6 := bel2 hb (by (repeat (first | exact Below.refl _ _ | assumption | refine Below.drew ?_ | refine below_drewN ?_ _ | refine Below.alloc ?_ (by first | omega | (simp; done) | (simp; omega)) _ | refine Below.setCell ?_ (by first | omega | (simp; done) | (simp; omega)) _))); obtain ⟨n0, n1, n2, n3, n4, n5⟩ := HBx.out _ hcf)
      | (go_at_call 12; refine (HBr.out _).mono ?_; rintro e w6 ⟨rfl, hb⟩; have hcf : Below w2.heap.size w2 w6 := bel2 hb (by (repeat (first | exact Below.refl _ _ | assumption | refine Below.drew ?_ | refine below_drewN ?_ _ | refine Below.alloc ?_ (by first | omega | (simp; done) | (simp; omega)) _ | refine Below.setCell ?_ (by first | omega | (simp; done) | (simp; omega)) _))); obtain ⟨n0, n1, n2, n3, n4, n5⟩ := HBx.out _ hcf)
      | (go_at_call 6; refine (HP.out _ (by (repeat (first | exact Below.refl _ _ | assumption | refine Below.drew ?_ | refine below_drewN ?_ _ | refine Below.alloc ?_ (by first | omega | (simp; done) | (simp; omega)) _ | refine Below.setCell ?_ (by first | omega | (simp; done) | (simp; omega)) _)))).mono ?_; rintro e w6 ⟨rfl, hb⟩; have hcf : Below w2.heap.size w2 w6 := bel2 hb (by (repeat (first | exact Below.refl _ _ | assumption | refine Below.drew ?_ | refine below_drewN ?_ _ | refine Below.alloc ?_ (by first | omega | (simp; done) | (simp; omega)) _ | refine Below.setCell ?_ (by first | omega | (simp; done) | (simp; omega)) _))))))
    all_goals
      go_wp2
      refine bodyPost_ret (v := .bool true) (by simp [results, Tryd.results3, go_sem]) rfl ⟨rfl, bel2 hcf hbwF⟩
  · injection hv with e1 e2 e3
    subst e1 e3
    clear hh hsz3 htk
    have HCs := hide (own_cells o1')
    go_wp2_with (at_builtin; refine wpList_append_own _ rfl _ _ 22 rfl _ 26 i0 _ 6 64 Tryd.underlying22 hi hz0 hz1 hz2 rfl (by decide) _ _ _ rfl o2 ⟨g, 0, none⟩ es1.length c1 (ndCells es1) rfl (ndCells_len _) (HCs.out _ rfl) (nd_one _) (by unfold maxLen; omega) (by omega) (by have := hb2.size; omega) ?_; intro v' w3 hown3 hgrow _)
    obtain ⟨B3, c3, rfl⟩ := own_form hown3
    have hbF1 : Below w1.heap.size w1 w3 := hb2.grown hgrow (by have := hb2.size; omega) (fun k hk => (o2.lt k hk).1)
    have hbwF := bel2 hbF1 hbw1
    have own3 : w3.ownsRow w1.heap.size 26 6 (.slice B3 (es2 ++ es1).length c3) (es2 ++ es1).length (ndCells (es2 ++ es1)) := by rw [ndCells_append, List.length_append]; exact hown3
    clear hown3 hgrow
    have HV1 := hide (fun W (h : Below w3.heap.size w3 W) => expr_Validate_any A es rc W (HW.out.below (bel2 h hbwF)) (HE.out.below (bel2 h hbwF)) (by omega) HX.out)
    have HR1 := hide (fun W (h : Below w3.heap.size w3 W) => ref8_Validate_any A es rc W (HE.out.below (bel2 h hbwF)) (by omega) HX.out)
    have HV2 := hide (fun W (h : Below w3.heap.size w3 W) => expr_Validate_any (some ⟨g, 0, Option.none⟩) es1 c1 W (HW.out.below (bel2 h hbwF)) ((NdsAt_of_own o1).below (bel2 h hbF1)) (by omega) hn1)
    have HR2 := hide (fun W (h : Below w3.heap.size w3 W) => ref8_Validate_any (some ⟨g, 0, Option.none⟩) es1 c1 W ((NdsAt_of_own o1).below (bel2 h hbF1)) (by omega) hn1)
    have HM := hide (fun W (h : Below w3.heap.size w3 W) => made_ok w L l lc n HL.out HW.out W (bel2 h hbwF))
    have HAr := hide (fun W => expr_Arity_any op k m a x nm W)
    have HBr := hide (fun W => ref8_Arity_any op k m a x nm W)
    have HP := hide (fun W (h : Below w3.heap.size w3 W) => law8_plain_any W (HW.out.below (bel2 h hbwF)))
    have HBx := hide (fun W (h : Below w3.heap.size w3 W) => cells6_of (((bel2 h (bel2 hbF1 hb1)).block _ hlx).trans hx0))
    have HV3 := hide (fun W (h : Below w3.heap.size w3 W) => expr_Validate_any B3 (es2 ++ es1) c3 W (HW.out.below (bel2 h hbwF)) ((NdsAt_of_own own3).below h) (by rw [List.length_append]; omega) (g2.names.append hn1))
    have HR3 := hide (fun W (h : Below w3.heap.size w3 W) => ref8_Validate_any B3 (es2 ++ es1) c3 W ((NdsAt_of_own own3).below h) (by rw [List.length_append]; omega) (g2.names.append hn1))
    generalize hv3 : validE (es2 ++ es1) = y3 at *
    rw [List.length_append] at HV3 HR3
    clear hv3
    generalize hv1 : validE es = y1 at *
    generalize hv2 : validE es1 = y2 at *
    generalize har : arityN op a = y4 at *
    clear hv1 hv2 har
    have hcf := Below.refl w3.heap.size w3
    (go_region_with (first
      | (go_at_call_of 9 (Value.slice A es.length rc); refine (HV1.out _ (by (repeat (first | exact Below.refl _ _ | assumption | refine Below.drew ?_ | refine below_drewN ?_ _ | refine Below.alloc ?_ (by first | omega | (simp; done) | (simp; omega)) _ | refine Below.setCell ?_ (by first | omega | (simp; done) | (simp; omega)) _)))).mono ?_; rintro e w6 ⟨rfl, hb⟩; have hcf : Below w3.heap.size w3 w6 := bel2 hb (by (repeat (first | exact Below.refl _ _ | assumption | refine Below.drew ?_ | refine below_drewN ?_ _ | refine Below.alloc ?_ (by first | omega | (simp; done) | (simp; omega)) _ | refine Below.setCell ?_ (by first | omega | (simp; done) | (simp; omega)) _))))
      | (go_at_call_of 10 (Value.slice A es.length rc); refine (HR1.out _ (by (repeat (first | exact Below.refl _ _ | assumption | refine Below.drew ?_ | refine below_drewN ?_ _ | refine Below.alloc ?_ (by first | omega | (simp; done) | (simp; omega)) _ | refine Below.setCell ?_ (by first | omega | (simp; done) | (simp; omega)) _)))).mono ?_; rintro e w6 ⟨rfl, hb⟩; have hcf : Below w3.heap.size w3 w6 := bel2 hb (by (repeat (first | exact Below.refl _ _ | assumption | refine Below.drew ?_ | refine below_drewN ?_ _ | refine Below.alloc ?_ (by first | omega | (simp; done) | (simp; omega)) _ | refine Below.setCell ?_ (by first | omega | (simp; done) | (simp; omega)) _))))
      | (go_at_call_of 9 (Value.slice (some ⟨g, 0, Option.none⟩) es1.length c1); refine (HV2.out _ (by (repeat (first | exact Below.refl _ _ | assumption | refine Below.drew ?_ | refine below_drewN ?_ _ | refine Below.alloc ?_ (by first | omega | (simp; done) | (simp; omega)) _ | refine Below.setCell ?_ (by first | omega | (simp; done) | (simp; omega)) _)))).mono ?_; rintro e w6 ⟨rfl, hb⟩; have hcf : Below w3.heap.size w3 w6 := bel2 hb (by (repeat (first | exact Below.refl _ _ | assumption | refine Below.drew ?_ | refine below_drewN ?_ _ | refine Below.alloc ?_ (by first | omega | (simp; done) | (simp; omega)) _ | refine Below.setCell ?_ (by first | omega | (simp; done) | (simp; omega)) _))))
      | (go_at_call_of 10 (Value.slice (some ⟨g, 0, Option.none⟩) es1.length c1); refine (HR2.out _ (by (repeat (first | exact Below.refl _ _ | assumption | refine Below.drew ?_ | refine below_drewN ?_ _ | refine Below.alloc ?_ (by first | omega | (simp; done) | (simp; omega)) _ | refine Below.setCell ?_ (by first | omega | (simp; done) | (simp; omega)) _)))).mono ?_; rintro e w6 ⟨rfl, hb⟩; have hcf : Below w3.heap.size w3 w6 := bel2 hb (by (repeat (first | exact Below.refl _ _ | assumption | refine Below.drew ?_ | refine below_drewN ?_ _ | refine Below.alloc ?_ (by first | omega | (simp; done) | (simp; omega)) _ | refine Below.setCell ?_ (by first | omega | (simp; done) | (simp; omega)) _))))
      | (go_at_call_of 9 (Value.slice B3 (es2.length + es1.length) c3); refine (HV3.out _ (by (repeat (first | exact Below.refl _ _ | assumption | refine Below.drew ?_ | refine below_drewN ?_ _ | refine Below.alloc ?_ (by first | omega | (simp; done) | (simp; omega)) _ | refine Below.setCell ?_ (by first | omega | (simp; done) | (simp; omega)) _)))).mono ?_; rintro e w6 ⟨rfl, hb⟩; have hcf : Below w3.heap.size w3 w6 := bel2 hb (by (repeat (first | exact Below.refl _ _ | assumption | refine Below.drew ?_ | refine below_drewN ?_ _ | refine Below.alloc ?_ (by first | omega | (simp; done) | (simp; omega)) _ | refine Below.setCell ?_ (by first | omega | (simp; done) | (simp; omega)) _))))
      | (go_at_call_of 10 (Value.slice B3 (es2.length + es1.length) c3); refine (HR3.out _ (by (repeat (first | exact Below.refl _ _ | assumption | refine Below.drew ?_ | refine below_drewN ?_ _ | refine Below.alloc ?_ (by first | omega | (simp; done) | (simp; omega)) _ | refine Below.setCell ?_ (by first | omega | (simp; done) | (simp; omega)) _)))).mono ?_; rintro e w6 ⟨rfl, hb⟩; have hcf : Below w3.heap.size w3 w6 := bel2 hb (by (repeat (first | exact Below.refl _ _ | assumption | refine Below.drew ?_ | refine below_drewN ?_ _ | refine Below.alloc ?_ (by first | omega | (simp; done) | (simp; omega)) _ | refine Below.setCell ?_ (by first | omega | (simp; done) | (simp; omega)) _))))
      | (go_at_call 8; refine (HM.out _ (by (repeat (first | exact Below.refl _ _ | assumption | refine Below.drew ?_ | refine below_drewN ?_ _ | refine Below.alloc ?_ (by first | omega | (simp; done) | (simp; omega)) _ | refine Below.setCell ?_ (by first | omega | (simp; done) | (simp; omega)) _)))).mono ?_; rintro e w6 ⟨⟨es4, A4, c4, rfl, hv4⟩, hb⟩; have hcf : Below w3.heap.size w3 w6 := bel2 hb (by (repeat (first | exact Below.refl _ _ | assumption | refine Below.drew ?_ | refine below_drewN ?_ _ | refine Below.alloc ?_ (by first | omega | (simp; done) | (simp; omega)) _ | refine Below.setCell ?_ (by first | omega | (simp; done) | (simp; omega)) _))); have HV4 := hide hv4; clear hv4)
      | (go_at_call_of 9 (Value.slice A4 es4.length c4); refine (HV4.out _ (Below.refl _ _)).mono ?_; rintro e w6 ⟨rfl, hb⟩; have hcf : Below w3.heap.size w3 w6 := bel2 hb (by (repeat (first | exact Below.refl _ _ | assumption | refine Below.drew ?_ | refine below_drewN ?_ _ | refine Below.alloc ?_ (by first | omega | (simp; done) | (simp; omega)) _ | refine Below.setCell ?_ (by first | omega | (simp; done) | (simp; omega)) _))); obtain ⟨n0, n1, n2, n3, n4, n5⟩ := HBx.out _ hcf)
      | (go_at_call 11; refine (HAr.out _).mono ?_; rintro e w6 ⟨rfl, hb⟩; have hcf : Below w3.heap.size w3 w6 := bel2 hb (by (repeat (first | exact Below.refl _ _ | assumption | refine Below.drew ?_ | refine below_drewN ?_ _ | refine Below.alloc ?_ (by first | omega | (simp; done) | (simp; omega)) _ | refine Below.setCell ?_ (by first | omega | (simp; done) | (simp; omega)) _))); obtain ⟨n0, n1, n2, n3, n4, n5⟩ := HBx.out _ hcf)
      | (go_at_call 12; refine (HBr.out _).mono ?_; rintro e w6 ⟨rfl, hb⟩; have hcf : Below w3.heap.size w3 w6 := bel2 hb (by (repeat (first | exact Below.refl _ _ | assumption | refine Below.drew ?_ | refine below_drewN ?_ _ | refine Below.alloc ?_ (by first | omega | (simp; done) | (simp; omega)) _ | refine Below.setCell ?_ (by first | omega | (simp; done) | (simp; omega)) _))); obtain ⟨n0, n1, n2, n3, n4, n5⟩ := HBx.out _ hcf)
      | (go_at_call 6; refine (HP.out _ (by (repeat (first | exact Below.refl _ _ | assumption | refine Below.drew ?_ | refine below_drewN ?_ _ | refine Below.alloc ?_ (by first | omega | (simp; done) | (simp; omega)) _ | refine Below.setCell ?_ (by first | omega | (simp; done) | (simp; omega)) _)))).mono ?_; rintro e w6 ⟨rfl, hb⟩; have hcf : Below w3.heap.size w3 w6 := bel2 hb (by (repeat (first | exact Below.refl _ _ | assumption | refine Below.drew ?_ | refine below_drewN ?_ _ | refine Below.alloc ?_ (by first | omega | (simp; done) | (simp; omega)) _ | refine Below.setCell ?_ (by first | omega | (simp; done) | (simp; omega)) _))))))
    all_goals
      go_wp2
      refine bodyPost_ret (v := .bool true) (by simp [results, Tryd.results3, go_sem]) rfl ⟨rfl, bel2 hcf hbwF⟩
end Go.Proofs.YtlfedcbihbigoaaDoor
