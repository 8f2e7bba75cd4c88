/- Contracts that tell only that there is an answer: the types of operators (ref9.fits, common, unary, difference, binary, Zone). -/
import Derived.Test.YtlfedcbihbigoaaDoorTotA
import Derived.Deep.RegionHeld3
set_option linter.unusedVariables false
set_option linter.unusedSimpArgs false
namespace Go.Proofs.YtlfedcbihbigoaaDoor
open Go.RowKit
def fitK (k kind : Int) : Bool := k == kind || k == 0
abbrev knV (k : Int) (b : Bool) : Value := .agg #[.int .i64 k, .bool b]
abbrev knO (k : Int) (b : Bool) : Obj := .cells #[.int .i64 k, .bool b] 98
theorem ref9_fits_any (k kind : Int) (b : Bool) (w : World) : Calls Tryd.prog 82 #[knV k b, .int .i64 kind] w fun e w' => e = .returned (.bool (fitK k kind)) ∧ w.alloc (knO k b) = w' := by
  have HE := hide (show fitK k kind = (k == kind || k == 0) from rfl)
  by_cases h : k = kind
  · subst h
    go_enter Tryd.func82, Tryd.ntmps82
    go_wp2
    go_ret
    exact ⟨ret_bool (by rw [HE.out]; simp), rfl⟩
  · have hb : (k == kind) = false := by simpa using h
    go_enter Tryd.func82, Tryd.ntmps82
    go_wp2
    go_ret
    exact ⟨ret_bool (by rw [HE.out, hb]; simp), rfl⟩
theorem bodyPost_ex {P : Program} {fn : Func} {R : Ending → World → Prop} {a : Act} {w : World} (hd : a.defers = []) (h : ∃ v, (results fn a.tmps).run P w = .ok v w ∧ R (.returned v) w) : bodyPost P fn R .ret a w :=
  let ⟨_, h1, h2⟩ := h; bodyPost_ret h1 hd h2
def KnIs (e : Ending) : Prop := ∃ (k : Int) (b c : Bool), e = .returned (.tuple #[.agg #[.int .i64 k, .bool b], .bool c])
def CmIs (e : Ending) : Prop := ∃ (k : Int) (c : Bool), e = .returned (.tuple #[.int .i64 k, .bool c])
set_option maxRecDepth 100000 in
set_option maxHeartbeats 2000000 in
theorem ref9_difference_any (k1 k2 : Int) (b1 b2 : Bool) (w : World) : Calls Tryd.prog 88 #[knV k1 b1, knV k2 b2] w fun e w' => KnIs e ∧ Below w.heap.size w w' := by
  go_enter Tryd.func88, Tryd.ntmps88
  go_wp2_with (go_at_call 82; refine (ref9_fits_any _ _ _ _).mono ?_; rintro e w' ⟨rfl, rfl⟩)
  all_goals
    refine bodyPost_ex rfl ?_
    apply Exists.intro
    apply And.intro
    · simp [results, Tryd.results88, go_sem]; rfl
    · exact ⟨⟨_, _, _, rfl⟩, by (repeat (first | exact Below.refl _ _ | assumption | refine Below.drew ?_ | refine below_drewN ?_ _ | refine Below.alloc ?_ (by first | omega | (simp; done) | (simp; omega)) _ | refine Below.setCell ?_ (by first | omega | (simp; done) | (simp; omega)) _))⟩
set_option maxRecDepth 100000 in
set_option maxHeartbeats 1000000 in
theorem ref9_common_any (k1 k2 : Int) (b1 b2 : Bool) (w : World) : Calls Tryd.prog 81 #[knV k1 b1, knV k2 b2] w fun e w' => CmIs e ∧ Below w.heap.size w w' := by
  go_enter Tryd.func81, Tryd.ntmps81
  go_wp2
  · go_ret2
    exact ⟨⟨_, _, rfl⟩, by (repeat (first | exact Below.refl _ _ | assumption | refine Below.drew ?_ | refine below_drewN ?_ _ | refine Below.alloc ?_ (by first | omega | (simp; done) | (simp; omega)) _ | refine Below.setCell ?_ (by first | omega | (simp; done) | (simp; omega)) _))⟩
  · go_region_with (go_at_call 82; refine (ref9_fits_any _ _ _ _).mono ?_; rintro e w' ⟨rfl, rfl⟩)
    all_goals
      go_wp2
      go_ret2
      exact ⟨⟨_, _, rfl⟩, by (repeat (first | exact Below.refl _ _ | assumption | refine Below.drew ?_ | refine below_drewN ?_ _ | refine Below.alloc ?_ (by first | omega | (simp; done) | (simp; omega)) _ | refine Below.setCell ?_ (by first | omega | (simp; done) | (simp; omega)) _))⟩
set_option maxRecDepth 100000 in
set_option maxHeartbeats 2000000 in
theorem ref9_unary_any (op k : Int) (b : Bool) (w : World) : Calls Tryd.prog 84 #[.int .i64 op, knV k b] w fun e w' => KnIs e ∧ Below w.heap.size w w' := by
  go_enter Tryd.func84, Tryd.ntmps84
  go_wp2
  · go_region_with (go_at_call 82; refine (ref9_fits_any _ _ _ _).mono ?_; rintro e w' ⟨rfl, rfl⟩)
    all_goals
      go_wp2
      refine bodyPost_ret (v := .tuple #[knV 1 b, .bool (fitK k 1)]) (by simp [results, Tryd.results84, go_sem]) rfl ⟨⟨_, _, _, rfl⟩, by (repeat (first | exact Below.refl _ _ | assumption | refine Below.drew ?_ | refine below_drewN ?_ _ | refine Below.alloc ?_ (by first | omega | (simp; done) | (simp; omega)) _ | refine Below.setCell ?_ (by first | omega | (simp; done) | (simp; omega)) _))⟩
  · go_region_with (go_at_call 82; refine (ref9_fits_any _ _ _ _).mono ?_; rintro e w' ⟨rfl, rfl⟩)
    all_goals
      go_wp2
      refine bodyPost_ret (v := .tuple #[knV 2 b, .bool (fitK k 2)]) (by simp [results, Tryd.results84, go_sem]) rfl ⟨⟨_, _, _, rfl⟩, by (repeat (first | exact Below.refl _ _ | assumption | refine Below.drew ?_ | refine below_drewN ?_ _ | refine Below.alloc ?_ (by first | omega | (simp; done) | (simp; omega)) _ | refine Below.setCell ?_ (by first | omega | (simp; done) | (simp; omega)) _))⟩
  · refine bodyPost_ret (v := .tuple #[knV 1 false, .bool true]) (by simp [results, Tryd.results84, go_sem]) rfl ⟨⟨_, _, _, rfl⟩, by (repeat (first | exact Below.refl _ _ | assumption | refine Below.drew ?_ | refine below_drewN ?_ _ | refine Below.alloc ?_ (by first | omega | (simp; done) | (simp; omega)) _ | refine Below.setCell ?_ (by first | omega | (simp; done) | (simp; omega)) _))⟩
  · go_region_with (go_at_call 82; refine (ref9_fits_any _ _ _ _).mono ?_; rintro e w' ⟨rfl, rfl⟩)
    all_goals
      go_wp2
      refine bodyPost_ret (v := .tuple #[knV 2 b, .bool (fitK k 3)]) (by simp [results, Tryd.results84, go_sem]) rfl ⟨⟨_, _, _, rfl⟩, by (repeat (first | exact Below.refl _ _ | assumption | refine Below.drew ?_ | refine below_drewN ?_ _ | refine Below.alloc ?_ (by first | omega | (simp; done) | (simp; omega)) _ | refine Below.setCell ?_ (by first | omega | (simp; done) | (simp; omega)) _))⟩
  · go_region_with (go_at_call 82; refine (ref9_fits_any _ _ _ _).mono ?_; rintro e w' ⟨rfl, rfl⟩)
    all_goals
      go_wp2
      refine bodyPost_ret (v := .tuple #[knV 2 b, .bool (fitK k 4)]) (by simp [results, Tryd.results84, go_sem]) rfl ⟨⟨_, _, _, rfl⟩, by (repeat (first | exact Below.refl _ _ | assumption | refine Below.drew ?_ | refine below_drewN ?_ _ | refine Below.alloc ?_ (by first | omega | (simp; done) | (simp; omega)) _ | refine Below.setCell ?_ (by first | omega | (simp; done) | (simp; omega)) _))⟩
end Go.Proofs.YtlfedcbihbigoaaDoor
