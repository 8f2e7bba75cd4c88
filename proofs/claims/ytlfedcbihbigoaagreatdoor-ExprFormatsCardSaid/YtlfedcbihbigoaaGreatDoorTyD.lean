/- Contracts that tell the answer: the types of operators (ref9.common, unary, difference, binary). -/
import Derived.Test.YtlfedcbihbigoaaGreatDoorTotCD
set_option linter.unusedVariables false
set_option linter.unusedSimpArgs false
namespace Go.Proofs.YtlfedcbihbigoaaGreatDoor
open Go.RowKit
abbrev Kn := Int × Bool
def comS (x y : Kn) : Int × Bool := if x.1 = 0 then (y.1, true) else (x.1, fitK y.1 x.1)
def unS (op : Int) (x : Kn) : Kn × Bool :=
  if op = 2 then ((1, x.2), fitK x.1 1) else if op = 3 then ((2, x.2), fitK x.1 2) else if op = 16 then ((1, false), true) else if op = 19 then ((2, x.2), fitK x.1 3) else ((2, x.2), fitK x.1 4)
def difS (x y : Kn) : Kn × Bool :=
  if (x.1 = 4 ∨ x.1 = 0) ∧ y.1 = 4 then ((2, x.2 || y.2), true) else if x.1 = 4 then ((4, true), fitK y.1 2) else ((2, true), fitK x.1 2 && fitK y.1 2)
def bnS (op : Int) (x y : Kn) : Kn × Bool :=
  if op = 4 then (if x.1 = 4 then ((4, true), fitK y.1 2) else ((2, true), fitK x.1 2 && fitK y.1 2))
  else if op = 5 then difS x y
  else if op = 6 ∨ op = 7 ∨ op = 8 then ((2, true), fitK x.1 2 && fitK y.1 2)
  else if op = 9 then ((3, true), fitK x.1 3 && fitK y.1 3)
  else if op = 14 ∨ op = 15 then ((1, x.2 || y.2), fitK x.1 1 && fitK y.1 1)
  else if op = 18 then (((comS x y).1, x.2 && y.2), (comS x y).2)
  else ((1, x.2 || y.2), (comS x y).2)
abbrev kbV (r : Kn × Bool) : Value := .tuple #[.agg #[.int .i64 r.1.1, .bool r.1.2], .bool r.2]
set_option maxRecDepth 100000 in
set_option maxHeartbeats 1000000 in
theorem ref9_common_s (k1 k2 : Int) (b1 b2 : Bool) (w : World) : Calls Tryz.prog 145 #[knV k1 b1, knV k2 b2] w fun e w' => e = .returned (.tuple #[.int .i64 (comS (k1, b1) (k2, b2)).1, .bool (comS (k1, b1) (k2, b2)).2]) ∧ Below w.heap.size w w' := by
  by_cases h : k1 = 0
  · subst h
    have HE := hide (show comS (0, b1) (k2, b2) = (k2, true) from rfl)
    go_enter Tryz.func145, Tryz.ntmps145
    go_wp2
    rw [HE.out]
    refine bodyPost_ret (v := .tuple #[.int .i64 k2, .bool true]) (by simp [results, Tryz.results145, go_sem]) rfl ⟨rfl, by (repeat (first | exact Below.refl _ _ | assumption | refine Below.drew ?_ | refine below_drewN ?_ _ | refine Below.alloc ?_ (by first | omega | (simp; done) | (simp; omega)) _ | refine Below.setCell ?_ (by first | omega | (simp; done) | (simp; omega)) _))⟩
  · have hb : (k1 == 0) = false := by simpa using h
    have HE := hide (show comS (k1, b1) (k2, b2) = (k1, fitK k2 k1) from by unfold comS; simp [h])
    go_enter Tryz.func145, Tryz.ntmps145
    go_wp2
    go_region_with (go_at_call 146; refine (ref9_fits_any _ _ _ _).mono ?_; rintro e w' ⟨rfl, rfl⟩)
    all_goals
      go_wp2
      rw [HE.out]
      refine bodyPost_ret (v := .tuple #[.int .i64 k1, .bool (fitK k2 k1)]) (by simp [results, Tryz.results145, go_sem]) rfl ⟨rfl, by (repeat (first | exact Below.refl _ _ | assumption | refine Below.drew ?_ | refine below_drewN ?_ _ | refine Below.alloc ?_ (by first | omega | (simp; done) | (simp; omega)) _ | refine Below.setCell ?_ (by first | omega | (simp; done) | (simp; omega)) _))⟩
set_option maxRecDepth 100000 in
set_option maxHeartbeats 2000000 in
theorem ref9_unary_s (op k : Int) (b : Bool) (w : World) : Calls Tryz.prog 148 #[.int .i64 op, knV k b] w fun e w' => e = .returned (kbV (unS op (k, b))) ∧ Below w.heap.size w w' := by
  have H2 := hide (show op = 2 → unS op (k, b) = ((1, b), fitK k 1) from fun h => by subst h; rfl)
  have H3 := hide (show op = 3 → unS op (k, b) = ((2, b), fitK k 2) from fun h => by subst h; rfl)
  have H16 := hide (show op = 16 → unS op (k, b) = ((1, false), true) from fun h => by subst h; rfl)
  have H19 := hide (show op = 19 → unS op (k, b) = ((2, b), fitK k 3) from fun h => by subst h; rfl)
  have H0 := hide (show ¬ op = 2 → ¬ op = 3 → ¬ op = 16 → ¬ op = 19 → unS op (k, b) = ((2, b), fitK k 4) from fun h1 h2 h3 h4 => by unfold unS; rw [if_neg h1, if_neg h2, if_neg h3, if_neg h4])
  by_cases h2 : op = 2
  · have HE := hide (H2.out h2)
    subst h2
    clear H2 H3 H16 H19 H0
    go_enter Tryz.func148, Tryz.ntmps148
    go_wp2
    go_region_with (go_at_call 146; refine (ref9_fits_any _ _ _ _).mono ?_; rintro e w' ⟨rfl, rfl⟩)
    all_goals
      go_wp2
      refine bodyPost_ret (v := .tuple #[knV 1 b, .bool (fitK k 1)]) (by simp [results, Tryz.results148, go_sem]) rfl ⟨by rw [HE.out], by (repeat (first | exact Below.refl _ _ | assumption | refine Below.drew ?_ | refine below_drewN ?_ _ | refine Below.alloc ?_ (by first | omega | (simp; done) | (simp; omega)) _ | refine Below.setCell ?_ (by first | omega | (simp; done) | (simp; omega)) _))⟩
  by_cases h3 : op = 3
  · have HE := hide (H3.out h3)
    subst h3
    clear H2 H3 H16 H19 H0
    go_enter Tryz.func148, Tryz.ntmps148
    go_wp2
    go_region_with (go_at_call 146; refine (ref9_fits_any _ _ _ _).mono ?_; rintro e w' ⟨rfl, rfl⟩)
    all_goals
      go_wp2
      refine bodyPost_ret (v := .tuple #[knV 2 b, .bool (fitK k 2)]) (by simp [results, Tryz.results148, go_sem]) rfl ⟨by rw [HE.out], by (repeat (first | exact Below.refl _ _ | assumption | refine Below.drew ?_ | refine below_drewN ?_ _ | refine Below.alloc ?_ (by first | omega | (simp; done) | (simp; omega)) _ | refine Below.setCell ?_ (by first | omega | (simp; done) | (simp; omega)) _))⟩
  by_cases h16 : op = 16
  · have HE := hide (H16.out h16)
    subst h16
    clear H2 H3 H16 H19 H0
    go_enter Tryz.func148, Tryz.ntmps148
    go_wp2
    refine bodyPost_ret (v := .tuple #[knV 1 false, .bool true]) (by simp [results, Tryz.results148, go_sem]) rfl ⟨by rw [HE.out], by (repeat (first | exact Below.refl _ _ | assumption | refine Below.drew ?_ | refine below_drewN ?_ _ | refine Below.alloc ?_ (by first | omega | (simp; done) | (simp; omega)) _ | refine Below.setCell ?_ (by first | omega | (simp; done) | (simp; omega)) _))⟩
  by_cases h19 : op = 19
  · have HE := hide (H19.out h19)
    subst h19
    clear H2 H3 H16 H19 H0
    go_enter Tryz.func148, Tryz.ntmps148
    go_wp2
    go_region_with (go_at_call 146; refine (ref9_fits_any _ _ _ _).mono ?_; rintro e w' ⟨rfl, rfl⟩)
    all_goals
      go_wp2
      refine bodyPost_ret (v := .tuple #[knV 2 b, .bool (fitK k 3)]) (by simp [results, Tryz.results148, go_sem]) rfl ⟨by rw [HE.out], by (repeat (first | exact Below.refl _ _ | assumption | refine Below.drew ?_ | refine below_drewN ?_ _ | refine Below.alloc ?_ (by first | omega | (simp; done) | (simp; omega)) _ | refine Below.setCell ?_ (by first | omega | (simp; done) | (simp; omega)) _))⟩
  have HE := hide (H0.out h2 h3 h16 h19)
  have e2 : (op == 2) = false := by simpa using h2
  have e3 : (op == 3) = false := by simpa using h3
  have e16 : (op == 16) = false := by simpa using h16
  have e19 : (op == 19) = false := by simpa using h19
  clear H2 H3 H16 H19 H0 h2 h3 h16 h19
  go_enter Tryz.func148, Tryz.ntmps148
  go_wp2
  go_region_with (go_at_call 146; refine (ref9_fits_any _ _ _ _).mono ?_; rintro e w' ⟨rfl, rfl⟩)
  all_goals
    go_wp2
    refine bodyPost_ret (v := .tuple #[knV 2 b, .bool (fitK k 4)]) (by simp [results, Tryz.results148, go_sem]) rfl ⟨by rw [HE.out], by (repeat (first | exact Below.refl _ _ | assumption | refine Below.drew ?_ | refine below_drewN ?_ _ | refine Below.alloc ?_ (by first | omega | (simp; done) | (simp; omega)) _ | refine Below.setCell ?_ (by first | omega | (simp; done) | (simp; omega)) _))⟩
set_option maxRecDepth 100000 in
set_option maxHeartbeats 4000000 in
theorem ref9_difference_s (k1 k2 : Int) (b1 b2 : Bool) (w : World) : Calls Tryz.prog 166 #[knV k1 b1, knV k2 b2] w fun e w' => e = .returned (kbV (difS (k1, b1) (k2, b2))) ∧ Below w.heap.size w w' := by
  go_enter Tryz.func166, Tryz.ntmps166
  go_wp2_with (go_at_call 146; refine (ref9_fits_any _ _ _ _).mono ?_; rintro e w' ⟨rfl, rfl⟩)
  all_goals
    refine bodyPost_ex rfl ?_
    apply Exists.intro
    apply And.intro
    · simp [results, Tryz.results166, go_sem]; rfl
    · refine ⟨?_, by (repeat (first | exact Below.refl _ _ | assumption | refine Below.drew ?_ | refine below_drewN ?_ _ | refine Below.alloc ?_ (by first | omega | (simp; done) | (simp; omega)) _ | refine Below.setCell ?_ (by first | omega | (simp; done) | (simp; omega)) _))⟩
      simp_all [difS]
set_option maxRecDepth 100000 in
set_option maxHeartbeats 8000000 in
theorem ref9_binary_s (op k1 k2 : Int) (b1 b2 : Bool) (w : World) : Calls Tryz.prog 149 #[.int .i64 op, knV k1 b1, knV k2 b2] w fun e w' => e = .returned (kbV (bnS op (k1, b1) (k2, b2))) ∧ Below w.heap.size w w' := by
  have HD := hide (fun W => ref9_difference_s k1 k2 b1 b2 W)
  have HC := hide (fun W => ref9_common_s k1 k2 b1 b2 W)
  obtain ⟨⟨⟨kd, bd⟩, cd⟩, hd⟩ : ∃ r, difS (k1, b1) (k2, b2) = r := ⟨_, rfl⟩
  obtain ⟨⟨kc, cc⟩, hc⟩ : ∃ r, comS (k1, b1) (k2, b2) = r := ⟨_, rfl⟩
  rw [hd] at HD
  rw [hc] at HC
  have HB := hide (show bnS op (k1, b1) (k2, b2) = (if op = 4 then (if k1 = 4 then ((4, true), fitK k2 2) else ((2, true), fitK k1 2 && fitK k2 2))
  else if op = 5 then ((kd, bd), cd)
  else if op = 6 ∨ op = 7 ∨ op = 8 then ((2, true), fitK k1 2 && fitK k2 2)
  else if op = 9 then ((3, true), fitK k1 3 && fitK k2 3)
  else if op = 14 ∨ op = 15 then ((1, b1 || b2), fitK k1 1 && fitK k2 1)
  else if op = 18 then ((kc, b1 && b2), cc)
  else ((1, b1 || b2), cc)) from by unfold bnS; rw [hd, hc])
  clear hd hc
  generalize bnS op (k1, b1) (k2, b2) = r at *
  cases b1 <;> cases b2
  all_goals
    go_enter Tryz.func149, Tryz.ntmps149
    go_wp2_with (first
      | (go_at_call 146; refine (ref9_fits_any _ _ _ _).mono ?_; rintro e w' ⟨rfl, rfl⟩)
      | (go_at_call 166; refine (HD.out _).mono ?_; rintro e w1 ⟨rfl, hb1⟩; obtain ⟨r0, r1, fr, hb2, q1, q2⟩ := cells2_far hb1; have s0 := (fun a => (box2set r0 r1 a (.bool true)).1); have s1 := (fun a b => (box2set r0 r1 a b).2); clear hb1)
      | (go_at_call 145; refine (HC.out _).mono ?_; rintro e w1 ⟨rfl, hb1⟩; obtain ⟨r0, r1, fr, hb2, q1, q2⟩ := cells2_far hb1; have s0 := (fun a => (box2set r0 r1 a (.bool true)).1); have s1 := (fun a b => (box2set r0 r1 a b).2); clear hb1))
    all_goals
      refine bodyPost_ex rfl ?_
      apply Exists.intro
      apply And.intro
      · first | (simp [results, Tryz.results149, go_sem, s0, s1]; rfl) | (simp [results, Tryz.results149, go_sem]; rfl)
      · refine ⟨?_, by (repeat (first | exact Below.refl _ _ | assumption | refine Below.drew ?_ | refine below_drewN ?_ _ | refine Below.alloc ?_ (by first | omega | (simp; done) | (simp; omega)) _ | refine Below.setCell ?_ (by first | omega | (simp; done) | (simp; omega)) _))⟩
        have hb := HB.out
        clear HB HD HC
        simp_all
end Go.Proofs.YtlfedcbihbigoaaGreatDoor
