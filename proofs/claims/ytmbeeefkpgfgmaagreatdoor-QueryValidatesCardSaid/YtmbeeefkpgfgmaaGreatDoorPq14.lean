/- Contract, told: ref15.function. Rows of columns that the call has made; the contract of ref15.derive, told. -/
import Derived.Test.YtmbeeefkpgfgmaaGreatDoorPq13
import Derived.Test.YtmbeeefkpgfgmaaGreatDoorPq07
set_option linter.unusedVariables false
set_option linter.unusedSimpArgs false
namespace Go.Proofs.YtmbeeefkpgfgmaaGreatDoor
open Go.RowKit
abbrev coV (c : Col) : Value := .agg #[str c.name, .int .i64 c.kind, .bool c.null]
theorem fun_some {cs : List Col} {x : It} {m : Nat} (hm : m < cs.length) (hc : x.col ≠ []) (e : idxS cs x.col = m) : funS cs x =
    (if x.fn = 1 ∨ x.fn = 8 ∨ x.fn = 9 ∨ x.fn = 2 ∨ x.fn = 6 then (⟨x.name, 2, false⟩, 0)
    else if x.fn = 3 ∨ x.fn = 7 then (if cs[m].kind ≠ 2 then (⟨x.name, cs[m].kind, cs[m].null⟩, 7) else (⟨x.name, cs[m].kind, true⟩, 0))
    else if x.fn = 4 ∨ x.fn = 5 ∨ x.fn = 10 ∨ x.fn = 11 then (⟨x.name, cs[m].kind, true⟩, 0)
    else (⟨x.name, cs[m].kind, cs[m].null⟩, 0)) := by
  unfold funS
  rw [if_neg (by rw [e]; omega)]
  have h2 : colAt cs (idxS cs x.col) = cs[m] := by
    unfold colAt
    rw [e, if_pos (by omega), Int.toNat_natCast, List.getD_eq_getElem?_getD, List.getElem?_eq_getElem hm]
    rfl
  simp only [if_neg hc, h2]
theorem fun_none {cs : List Col} {x : It} (hc : x.col = []) : funS cs x =
    (if x.fn = 1 ∨ x.fn = 8 ∨ x.fn = 9 ∨ x.fn = 2 ∨ x.fn = 6 then (⟨x.name, 2, false⟩, 0)
    else if x.fn = 3 ∨ x.fn = 7 then (⟨x.name, 0, false⟩, 7)
    else if x.fn = 4 ∨ x.fn = 5 ∨ x.fn = 10 ∨ x.fn = 11 then (⟨x.name, 0, true⟩, 0)
    else (⟨x.name, 0, false⟩, 0)) := by
  unfold funS
  rw [if_neg (by simp [hc])]
  simp [hc, col0]
def fnK (f : Int) : Prop := f = 1 ∨ f = 8 ∨ f = 9 ∨ f = 2 ∨ f = 6 ∨ f = 3 ∨ f = 7 ∨ f = 4 ∨ f = 5 ∨ f = 10 ∨ f = 11

set_option maxRecDepth 100000 in
set_option maxHeartbeats 1500000 in
theorem function_none (C : Option Addr) (cs : List Col) (cc : Nat) (x : It) (E : Option Addr) (ec : Nat) (w : World) (hC : ColsAt w C cs) (hcl : cs.length ≤ 1000) (hcol : x.col = []) :
    Calls Tryz.prog 228 #[.slice C cs.length cc, itV x E ec] w fun e w' => e = .returned (.tuple #[coV (funS cs x).1, .int .i64 (funS cs x).2]) ∧ Below w.heap.size w w' := by
  have HX := hide (fun_none (cs := cs) hcol)
  clear hC
  generalize funS cs x = r at *
  obtain ⟨xn, xf, xc, xm, xe⟩ := x
  simp only at HX hcol
  subst hcol
  show Calls Tryz.prog 228 #[_, .agg #[str xn, .int .i64 xf, str [], .int .i64 xm, .slice E xe.length ec]] w _
  generalize xe.length = le
  have hf : xf = 1 ∨ xf = 8 ∨ xf = 9 ∨ xf = 2 ∨ xf = 6 ∨ xf = 3 ∨ xf = 7 ∨ xf = 4 ∨ xf = 5 ∨ xf = 10 ∨ xf = 11 ∨ ¬ fnK xf := by
    unfold fnK; omega
  rcases hf with rfl | rfl | rfl | rfl | rfl | rfl | rfl | rfl | rfl | rfl | rfl | hno
  · have HR := hide (show r = (⟨xn, 2, false⟩, 0) from HX.out.trans (by simp))
    clear HX
    go_enter Tryz.func228, Tryz.ntmps228
    go_wp2
    all_goals first | (exfalso; omega) | (exfalso; simp_all; done) | skip
    refine bodyPost_ret (v := .tuple #[.agg #[str xn, .int .i64 2, .bool false], .int .i64 0]) (by simp [results, Tryz.results228, go_sem]) rfl ⟨by rw [HR.out], zX⟩
  · have HR := hide (show r = (⟨xn, 2, false⟩, 0) from HX.out.trans (by simp))
    clear HX
    go_enter Tryz.func228, Tryz.ntmps228
    go_wp2
    all_goals first | (exfalso; omega) | (exfalso; simp_all; done) | skip
    refine bodyPost_ret (v := .tuple #[.agg #[str xn, .int .i64 2, .bool false], .int .i64 0]) (by simp [results, Tryz.results228, go_sem]) rfl ⟨by rw [HR.out], zX⟩
  · have HR := hide (show r = (⟨xn, 2, false⟩, 0) from HX.out.trans (by simp))
    clear HX
    go_enter Tryz.func228, Tryz.ntmps228
    go_wp2
    all_goals first | (exfalso; omega) | (exfalso; simp_all; done) | skip
    refine bodyPost_ret (v := .tuple #[.agg #[str xn, .int .i64 2, .bool false], .int .i64 0]) (by simp [results, Tryz.results228, go_sem]) rfl ⟨by rw [HR.out], zX⟩
  · have HR := hide (show r = (⟨xn, 2, false⟩, 0) from HX.out.trans (by simp))
    clear HX
    go_enter Tryz.func228, Tryz.ntmps228
    go_wp2
    all_goals first | (exfalso; omega) | (exfalso; simp_all; done) | skip
    refine bodyPost_ret (v := .tuple #[.agg #[str xn, .int .i64 2, .bool false], .int .i64 0]) (by simp [results, Tryz.results228, go_sem]) rfl ⟨by rw [HR.out], zX⟩
  · have HR := hide (show r = (⟨xn, 2, false⟩, 0) from HX.out.trans (by simp))
    clear HX
    go_enter Tryz.func228, Tryz.ntmps228
    go_wp2
    all_goals first | (exfalso; omega) | (exfalso; simp_all; done) | skip
    refine bodyPost_ret (v := .tuple #[.agg #[str xn, .int .i64 2, .bool false], .int .i64 0]) (by simp [results, Tryz.results228, go_sem]) rfl ⟨by rw [HR.out], zX⟩
  · have HR := hide (show r = (⟨xn, 0, false⟩, 7) from HX.out.trans (by simp))
    clear HX
    go_enter Tryz.func228, Tryz.ntmps228
    go_wp2
    all_goals first | (exfalso; omega) | (exfalso; simp_all; done) | skip
    refine bodyPost_ret (v := .tuple #[.agg #[str xn, .int .i64 0, .bool false], .int .i64 7]) (by simp [results, Tryz.results228, go_sem]) rfl ⟨by rw [HR.out], zX⟩
  · have HR := hide (show r = (⟨xn, 0, false⟩, 7) from HX.out.trans (by simp))
    clear HX
    go_enter Tryz.func228, Tryz.ntmps228
    go_wp2
    all_goals first | (exfalso; omega) | (exfalso; simp_all; done) | skip
    refine bodyPost_ret (v := .tuple #[.agg #[str xn, .int .i64 0, .bool false], .int .i64 7]) (by simp [results, Tryz.results228, go_sem]) rfl ⟨by rw [HR.out], zX⟩
  · have HR := hide (show r = (⟨xn, 0, true⟩, 0) from HX.out.trans (by simp))
    clear HX
    go_enter Tryz.func228, Tryz.ntmps228
    go_wp2
    all_goals first | (exfalso; omega) | (exfalso; simp_all; done) | skip
    refine bodyPost_ret (v := .tuple #[.agg #[str xn, .int .i64 0, .bool true], .int .i64 0]) (by simp [results, Tryz.results228, go_sem]) rfl ⟨by rw [HR.out], zX⟩
  · have HR := hide (show r = (⟨xn, 0, true⟩, 0) from HX.out.trans (by simp))
    clear HX
    go_enter Tryz.func228, Tryz.ntmps228
    go_wp2
    all_goals first | (exfalso; omega) | (exfalso; simp_all; done) | skip
    refine bodyPost_ret (v := .tuple #[.agg #[str xn, .int .i64 0, .bool true], .int .i64 0]) (by simp [results, Tryz.results228, go_sem]) rfl ⟨by rw [HR.out], zX⟩
  · have HR := hide (show r = (⟨xn, 0, true⟩, 0) from HX.out.trans (by simp))
    clear HX
    go_enter Tryz.func228, Tryz.ntmps228
    go_wp2
    all_goals first | (exfalso; omega) | (exfalso; simp_all; done) | skip
    refine bodyPost_ret (v := .tuple #[.agg #[str xn, .int .i64 0, .bool true], .int .i64 0]) (by simp [results, Tryz.results228, go_sem]) rfl ⟨by rw [HR.out], zX⟩
  · have HR := hide (show r = (⟨xn, 0, true⟩, 0) from HX.out.trans (by simp))
    clear HX
    go_enter Tryz.func228, Tryz.ntmps228
    go_wp2
    all_goals first | (exfalso; omega) | (exfalso; simp_all; done) | skip
    refine bodyPost_ret (v := .tuple #[.agg #[str xn, .int .i64 0, .bool true], .int .i64 0]) (by simp [results, Tryz.results228, go_sem]) rfl ⟨by rw [HR.out], zX⟩
  · unfold fnK at hno
    have HR := hide (show r = (⟨xn, 0, false⟩, 0) from HX.out.trans (by rw [if_neg (by omega), if_neg (by omega), if_neg (by omega)]))
    have q1 : (xf == 1) = false := beq_eq_false_iff_ne.2 (by omega)
    have q2 : (xf == 2) = false := beq_eq_false_iff_ne.2 (by omega)
    have q3 : (xf == 3) = false := beq_eq_false_iff_ne.2 (by omega)
    have q4 : (xf == 4) = false := beq_eq_false_iff_ne.2 (by omega)
    have q5 : (xf == 5) = false := beq_eq_false_iff_ne.2 (by omega)
    have q6 : (xf == 6) = false := beq_eq_false_iff_ne.2 (by omega)
    have q7 : (xf == 7) = false := beq_eq_false_iff_ne.2 (by omega)
    have q8 : (xf == 8) = false := beq_eq_false_iff_ne.2 (by omega)
    have q9 : (xf == 9) = false := beq_eq_false_iff_ne.2 (by omega)
    have q10 : (xf == 10) = false := beq_eq_false_iff_ne.2 (by omega)
    have q11 : (xf == 11) = false := beq_eq_false_iff_ne.2 (by omega)
    clear HX hno
    go_enter Tryz.func228, Tryz.ntmps228
    go_wp2
    all_goals first | (exfalso; omega) | (exfalso; simp_all; done) | skip
    refine bodyPost_ret (v := .tuple #[.agg #[str xn, .int .i64 0, .bool false], .int .i64 0]) (by simp [results, Tryz.results228, go_sem]) rfl ⟨by rw [HR.out], zX⟩
set_option maxRecDepth 100000 in
set_option maxHeartbeats 1500000 in
theorem function_some (C : Option Addr) (cs : List Col) (cc : Nat) (x : It) (E : Option Addr) (ec : Nat) (w : World) (hC : ColsAt w C cs) (hcl : cs.length ≤ 1000) (hcol : x.col ≠ []) (hi : ¬ idxS cs x.col < 0) :
    Calls Tryz.prog 228 #[.slice C cs.length cc, itV x E ec] w fun e w' => e = .returned (.tuple #[coV (funS cs x).1, .int .i64 (funS cs x).2]) ∧ Below w.heap.size w w' := by
  have HI := hide (fun W (hb : Below w.heap.size w W) => show Calls Tryz.prog 222 #[.slice C cs.length cc, str x.col] W (fun e w' => e = .returned (.int .i64 (idxS cs x.col)) ∧ W = w') from ref5_Index_s C cs cc ⟨x.col.toArray⟩ W (hC.below hb) (by omega))
  have hlt := idxS_lt cs x.col
  obtain ⟨m, hm⟩ : ∃ m : Nat, idxS cs x.col = m := ⟨(idxS cs x.col).toNat, by omega⟩
  have hml : m < cs.length := by omega
  have HX := hide (fun_some hml hcol hm)
  rw [hm] at HI
  rcases hC with e | ⟨g, off, rfl, hg, hc⟩
  · exact absurd hml (by rw [e]; simp)
  have c0 := fun W (hb : Below w.heap.size w W) => (hb.cell (p := ⟨g, off + m * 3, none⟩) hg).trans (hc m hml).1
  have c1 := fun W (hb : Below w.heap.size w W) => (hb.cell (p := ⟨g, off + m * 3 + 1, none⟩) hg).trans (hc m hml).2.1
  have c2 := fun W (hb : Below w.heap.size w W) => (hb.cell (p := ⟨g, off + m * 3 + 2, none⟩) hg).trans (hc m hml).2.2
  have b1 : (0 : Int) ≤ (m : Int) ∧ (m : Int) < (cs.length : Int) := by omega
  have hneg : ¬ (m : Int) < 0 := by omega
  clear hc hm hi hlt
  generalize funS cs x = r at *
  generalize cs[m] = y at *
  obtain ⟨yn, yk, yb⟩ := y
  obtain ⟨xn, xf, xc, xm, xe⟩ := x
  simp only at HX HI hcol c0 c1 c2
  show Calls Tryz.prog 228 #[_, .agg #[str xn, .int .i64 xf, str xc, .int .i64 xm, .slice E xe.length ec]] w _
  generalize xe.length = le
  have hemp : xc.isEmpty = false := by cases xc <;> simp_all
  have hbn : (xc != []) = true := by simpa using hcol
  have hb3 : Below w.heap.size w (((w.alloc (.cells #[str xn, .int .i64 xf, str xc, .int .i64 xm, .slice E le ec] 61)).alloc (.cells #[str [], .int .i64 0, .bool false] 105)).alloc (.cells #[str [], .int .i64 0, .bool false] 105)) := by (repeat (first | exact Below.refl _ _ | assumption | refine Below.drew ?_ | refine below_drewN ?_ _ | refine Below.alloc ?_ (by first | omega | simp <;> omega) _ | refine Below.setCell ?_ (by first | omega | simp <;> omega) _))
  have C0 := hide c0; have C1 := hide c1; have C2 := hide c2
  clear c0 c1 c2
  have HIb := hide (HI.out _ hb3)
  have d0 := C0.out _ hb3; have d1 := C1.out _ hb3; have d2 := C2.out _ hb3
  have hf : xf = 1 ∨ xf = 8 ∨ xf = 9 ∨ xf = 2 ∨ xf = 6 ∨ xf = 3 ∨ xf = 7 ∨ xf = 4 ∨ xf = 5 ∨ xf = 10 ∨ xf = 11 ∨ ¬ fnK xf := by
    unfold fnK; omega
  rcases hf with rfl | rfl | rfl | rfl | rfl | rfl | rfl | rfl | rfl | rfl | rfl | hno
  · have HR := hide (show r = (⟨xn, 2, false⟩, 0) from HX.out.trans (by simp))
    clear HX
    go_enter Tryz.func228, Tryz.ntmps228
    go_wp2_with (go_at_call 222; refine HIb.out.mono ?_; rintro e w' ⟨rfl, rfl⟩)
    all_goals first | (exfalso; omega) | (exfalso; simp_all; done) | skip
    refine bodyPost_ret (v := .tuple #[.agg #[str xn, .int .i64 2, .bool false], .int .i64 0]) (by simp [results, Tryz.results228, go_sem]) rfl ⟨by rw [HR.out], zX⟩
  · have HR := hide (show r = (⟨xn, 2, false⟩, 0) from HX.out.trans (by simp))
    clear HX
    go_enter Tryz.func228, Tryz.ntmps228
    go_wp2_with (go_at_call 222; refine HIb.out.mono ?_; rintro e w' ⟨rfl, rfl⟩)
    all_goals first | (exfalso; omega) | (exfalso; simp_all; done) | skip
    refine bodyPost_ret (v := .tuple #[.agg #[str xn, .int .i64 2, .bool false], .int .i64 0]) (by simp [results, Tryz.results228, go_sem]) rfl ⟨by rw [HR.out], zX⟩
  · have HR := hide (show r = (⟨xn, 2, false⟩, 0) from HX.out.trans (by simp))
    clear HX
    go_enter Tryz.func228, Tryz.ntmps228
    go_wp2_with (go_at_call 222; refine HIb.out.mono ?_; rintro e w' ⟨rfl, rfl⟩)
    all_goals first | (exfalso; omega) | (exfalso; simp_all; done) | skip
    refine bodyPost_ret (v := .tuple #[.agg #[str xn, .int .i64 2, .bool false], .int .i64 0]) (by simp [results, Tryz.results228, go_sem]) rfl ⟨by rw [HR.out], zX⟩
  · have HR := hide (show r = (⟨xn, 2, false⟩, 0) from HX.out.trans (by simp))
    clear HX
    go_enter Tryz.func228, Tryz.ntmps228
    go_wp2_with (go_at_call 222; refine HIb.out.mono ?_; rintro e w' ⟨rfl, rfl⟩)
    all_goals first | (exfalso; omega) | (exfalso; simp_all; done) | skip
    refine bodyPost_ret (v := .tuple #[.agg #[str xn, .int .i64 2, .bool false], .int .i64 0]) (by simp [results, Tryz.results228, go_sem]) rfl ⟨by rw [HR.out], zX⟩
  · have HR := hide (show r = (⟨xn, 2, false⟩, 0) from HX.out.trans (by simp))
    clear HX
    go_enter Tryz.func228, Tryz.ntmps228
    go_wp2_with (go_at_call 222; refine HIb.out.mono ?_; rintro e w' ⟨rfl, rfl⟩)
    all_goals first | (exfalso; omega) | (exfalso; simp_all; done) | skip
    refine bodyPost_ret (v := .tuple #[.agg #[str xn, .int .i64 2, .bool false], .int .i64 0]) (by simp [results, Tryz.results228, go_sem]) rfl ⟨by rw [HR.out], zX⟩
  · by_cases h2 : yk = 2
    · subst h2
      have HR := hide (show r = (⟨xn, 2, true⟩, 0) from HX.out.trans (by simp))
      clear HX
      go_enter Tryz.func228, Tryz.ntmps228
      go_wp2_with (go_at_call 222; refine HIb.out.mono ?_; rintro e w' ⟨rfl, rfl⟩)
      all_goals first | (exfalso; omega) | (exfalso; simp_all; done) | skip
      refine bodyPost_ret (v := .tuple #[.agg #[str xn, .int .i64 2, .bool true], .int .i64 0]) (by simp [results, Tryz.results228, go_sem]) rfl ⟨by rw [HR.out], zX⟩
    · have HR := hide (show r = (⟨xn, yk, yb⟩, 7) from HX.out.trans (by simp [h2]))
      have h2b : (yk != 2) = true := by simpa using h2
      clear HX h2
      go_enter Tryz.func228, Tryz.ntmps228
      go_wp2_with (go_at_call 222; refine HIb.out.mono ?_; rintro e w' ⟨rfl, rfl⟩)
      all_goals first | (exfalso; omega) | (exfalso; simp_all; done) | skip
      refine bodyPost_ret (v := .tuple #[.agg #[str xn, .int .i64 yk, .bool yb], .int .i64 7]) (by simp [results, Tryz.results228, go_sem]) rfl ⟨by rw [HR.out], zX⟩
  · by_cases h2 : yk = 2
    · subst h2
      have HR := hide (show r = (⟨xn, 2, true⟩, 0) from HX.out.trans (by simp))
      clear HX
      go_enter Tryz.func228, Tryz.ntmps228
      go_wp2_with (go_at_call 222; refine HIb.out.mono ?_; rintro e w' ⟨rfl, rfl⟩)
      all_goals first | (exfalso; omega) | (exfalso; simp_all; done) | skip
      refine bodyPost_ret (v := .tuple #[.agg #[str xn, .int .i64 2, .bool true], .int .i64 0]) (by simp [results, Tryz.results228, go_sem]) rfl ⟨by rw [HR.out], zX⟩
    · have HR := hide (show r = (⟨xn, yk, yb⟩, 7) from HX.out.trans (by simp [h2]))
      have h2b : (yk != 2) = true := by simpa using h2
      clear HX h2
      go_enter Tryz.func228, Tryz.ntmps228
      go_wp2_with (go_at_call 222; refine HIb.out.mono ?_; rintro e w' ⟨rfl, rfl⟩)
      all_goals first | (exfalso; omega) | (exfalso; simp_all; done) | skip
      refine bodyPost_ret (v := .tuple #[.agg #[str xn, .int .i64 yk, .bool yb], .int .i64 7]) (by simp [results, Tryz.results228, go_sem]) rfl ⟨by rw [HR.out], zX⟩
  · have HR := hide (show r = (⟨xn, yk, true⟩, 0) from HX.out.trans (by simp))
    clear HX
    go_enter Tryz.func228, Tryz.ntmps228
    go_wp2_with (go_at_call 222; refine HIb.out.mono ?_; rintro e w' ⟨rfl, rfl⟩)
    all_goals first | (exfalso; omega) | (exfalso; simp_all; done) | skip
    refine bodyPost_ret (v := .tuple #[.agg #[str xn, .int .i64 yk, .bool true], .int .i64 0]) (by simp [results, Tryz.results228, go_sem]) rfl ⟨by rw [HR.out], zX⟩
  · have HR := hide (show r = (⟨xn, yk, true⟩, 0) from HX.out.trans (by simp))
    clear HX
    go_enter Tryz.func228, Tryz.ntmps228
    go_wp2_with (go_at_call 222; refine HIb.out.mono ?_; rintro e w' ⟨rfl, rfl⟩)
    all_goals first | (exfalso; omega) | (exfalso; simp_all; done) | skip
    refine bodyPost_ret (v := .tuple #[.agg #[str xn, .int .i64 yk, .bool true], .int .i64 0]) (by simp [results, Tryz.results228, go_sem]) rfl ⟨by rw [HR.out], zX⟩
  · have HR := hide (show r = (⟨xn, yk, true⟩, 0) from HX.out.trans (by simp))
    clear HX
    go_enter Tryz.func228, Tryz.ntmps228
    go_wp2_with (go_at_call 222; refine HIb.out.mono ?_; rintro e w' ⟨rfl, rfl⟩)
    all_goals first | (exfalso; omega) | (exfalso; simp_all; done) | skip
    refine bodyPost_ret (v := .tuple #[.agg #[str xn, .int .i64 yk, .bool true], .int .i64 0]) (by simp [results, Tryz.results228, go_sem]) rfl ⟨by rw [HR.out], zX⟩
  · have HR := hide (show r = (⟨xn, yk, true⟩, 0) from HX.out.trans (by simp))
    clear HX
    go_enter Tryz.func228, Tryz.ntmps228
    go_wp2_with (go_at_call 222; refine HIb.out.mono ?_; rintro e w' ⟨rfl, rfl⟩)
    all_goals first | (exfalso; omega) | (exfalso; simp_all; done) | skip
    refine bodyPost_ret (v := .tuple #[.agg #[str xn, .int .i64 yk, .bool true], .int .i64 0]) (by simp [results, Tryz.results228, go_sem]) rfl ⟨by rw [HR.out], zX⟩
  · unfold fnK at hno
    have HR := hide (show r = (⟨xn, yk, yb⟩, 0) from HX.out.trans (by rw [if_neg (by omega), if_neg (by omega), if_neg (by omega)]))
    have q1 : (xf == 1) = false := beq_eq_false_iff_ne.2 (by omega)
    have q2 : (xf == 2) = false := beq_eq_false_iff_ne.2 (by omega)
    have q3 : (xf == 3) = false := beq_eq_false_iff_ne.2 (by omega)
    have q4 : (xf == 4) = false := beq_eq_false_iff_ne.2 (by omega)
    have q5 : (xf == 5) = false := beq_eq_false_iff_ne.2 (by omega)
    have q6 : (xf == 6) = false := beq_eq_false_iff_ne.2 (by omega)
    have q7 : (xf == 7) = false := beq_eq_false_iff_ne.2 (by omega)
    have q8 : (xf == 8) = false := beq_eq_false_iff_ne.2 (by omega)
    have q9 : (xf == 9) = false := beq_eq_false_iff_ne.2 (by omega)
    have q10 : (xf == 10) = false := beq_eq_false_iff_ne.2 (by omega)
    have q11 : (xf == 11) = false := beq_eq_false_iff_ne.2 (by omega)
    clear HX hno
    go_enter Tryz.func228, Tryz.ntmps228
    go_wp2_with (go_at_call 222; refine HIb.out.mono ?_; rintro e w' ⟨rfl, rfl⟩)
    all_goals first | (exfalso; omega) | (exfalso; simp_all; done) | skip
    refine bodyPost_ret (v := .tuple #[.agg #[str xn, .int .i64 yk, .bool yb], .int .i64 0]) (by simp [results, Tryz.results228, go_sem]) rfl ⟨by rw [HR.out], zX⟩
set_option maxRecDepth 100000 in
set_option maxHeartbeats 2000000 in
theorem ref15_function_any (C : Option Addr) (cs : List Col) (cc : Nat) (x : It) (E : Option Addr) (ec : Nat) (w : World) (hC : ColsAt w C cs) (hcl : cs.length ≤ 1000) :
    Calls Tryz.prog 228 #[.slice C cs.length cc, itV x E ec] w fun e w' => e = .returned (.tuple #[coV (funS cs x).1, .int .i64 (funS cs x).2]) ∧ Below w.heap.size w w' := by
  by_cases hcol : x.col = []
  · exact function_none C cs cc x E ec w hC hcl hcol
  by_cases hi : idxS cs x.col < 0
  rotate_left
  · exact function_some C cs cc x E ec w hC hcl hcol hi
  have HI := hide (fun W (hb : Below w.heap.size w W) => show Calls Tryz.prog 222 #[.slice C cs.length cc, str x.col] W (fun e w' => e = .returned (.int .i64 (idxS cs x.col)) ∧ W = w') from ref5_Index_s C cs cc ⟨x.col.toArray⟩ W (hC.below hb) (by omega))
  have HR := hide (show funS cs x = (col0, 5) from by unfold funS; rw [if_pos ⟨hcol, hi⟩])
  clear hC
  generalize funS cs x = r at *
  generalize idxS cs x.col = i at *
  obtain ⟨xn, xf, xc, xm, xe⟩ := x
  simp only at HI hcol
  show Calls Tryz.prog 228 #[_, .agg #[str xn, .int .i64 xf, str xc, .int .i64 xm, .slice E xe.length ec]] w _
  generalize xe.length = le
  have hemp : xc.isEmpty = false := by cases xc <;> simp_all
  have hb3 : Below w.heap.size w (((w.alloc (.cells #[str xn, .int .i64 xf, str xc, .int .i64 xm, .slice E le ec] 61)).alloc (.cells #[str [], .int .i64 0, .bool false] 105)).alloc (.cells #[str [], .int .i64 0, .bool false] 105)) := by (repeat (first | exact Below.refl _ _ | assumption | refine Below.drew ?_ | refine below_drewN ?_ _ | refine Below.alloc ?_ (by first | omega | simp <;> omega) _ | refine Below.setCell ?_ (by first | omega | simp <;> omega) _))
  have HIb := hide (HI.out _ hb3)
  clear hcol
  go_enter Tryz.func228, Tryz.ntmps228
  go_wp2_with (go_at_call 222; refine HIb.out.mono ?_; rintro e w' ⟨rfl, rfl⟩)
  all_goals first | (exfalso; omega) | (exfalso; simp_all; done) | skip
  refine bodyPost_ret (v := .tuple #[.agg #[str [], .int .i64 0, .bool false], .int .i64 5]) (by simp [results, Tryz.results228, go_sem]) rfl ⟨by rw [HR.out]; rfl, zX⟩
end Go.Proofs.YtmbeeefkpgfgmaaGreatDoor
namespace Go.Proofs.YtmbeeefkpgfgmaaGreatDoor
open Go.RowKit
theorem Tryz.info_col : (Tryz.prog.info? 105).map (fun i => (i.zero, i.size, i.bytes)) = some (some (.agg #[.string ⟨#[]⟩, .int .i64 0, .bool false]), 3, 32) := by kernel_rfl
def Col.cells (c : Col) : List Value := [str c.name, .int .i64 c.kind, .bool c.null]
def coCells (cs : List Col) : List Value := cs.flatMap Col.cells
theorem coCells_len (cs : List Col) : (coCells cs).length = cs.length * 3 := by
  induction cs with
  | nil => rfl
  | cons x r ih => simp only [coCells, List.flatMap_cons, List.length_append, List.length_cons] at *; rw [ih]; simp [Col.cells]; omega
theorem coCells_push (cs : List Col) (c : Col) : coCells (cs ++ [c]) = coCells cs ++ [str c.name, .int .i64 c.kind, .bool c.null] := by simp [coCells, Col.cells]
theorem coCells_at : ∀ (cs : List Col) (i : Nat) (h : i < cs.length) (j : Nat), j < 3 → (coCells cs)[i * 3 + j]? = cs[i].cells[j]?
  | [], i, h, _, _ => absurd h (by simp)
  | x :: r, 0, _, j, hj => by
    rw [Nat.zero_mul, Nat.zero_add]
    show (x.cells ++ coCells r)[j]? = _
    rw [List.getElem?_append_left (by simp [Col.cells]; omega)]
    rfl
  | x :: r, i + 1, h, j, hj => by
    show (x.cells ++ coCells r)[(i + 1) * 3 + j]? = _
    rw [List.getElem?_append_right (by simp [Col.cells]; omega), show (i + 1) * 3 + j - x.cells.length = i * 3 + j by simp [Col.cells]; omega]
    exact coCells_at r i (by simpa using h) j hj
theorem coCells_one (cs : List Col) : ∀ u ∈ coCells cs, u.oneCell' = true := by
  intro u hu
  simp only [coCells, List.mem_flatMap] at hu
  obtain ⟨c, _, hc⟩ := hu
  simp only [Col.cells, List.mem_cons, List.not_mem_nil, or_false] at hc
  rcases hc with rfl | rfl | rfl <;> simp [Value.oneCell']
theorem coCells_get {w : World} {g off : Nat} {cs : List Col} (hc : ∀ i (h : i < cs.length), ColAt w g (off + i * 3) cs[i]) : ∀ j u, (coCells cs)[j]? = some u → w.cell? ((⟨g, off, none⟩ : Addr).add j) = some u := by
  intro j u hu
  have hj : j < cs.length * 3 := by
    rcases Nat.lt_or_ge j (cs.length * 3) with h | h
    · exact h
    · rw [List.getElem?_eq_none (by rw [coCells_len]; exact h)] at hu; cases hu
  have hq : j / 3 < cs.length := by omega
  have ha : (⟨g, off, none⟩ : Addr).add j = ⟨g, off + j, none⟩ := by unfold Addr.add; split <;> simp_all
  rw [ha]
  have hjj : j = j / 3 * 3 + j % 3 := by omega
  have hr : j % 3 < 3 := by omega
  obtain ⟨h0, h1, h2⟩ := hc (j / 3) hq
  have e := coCells_at cs (j / 3) hq (j % 3) hr
  rw [← hjj, hu] at e
  generalize j % 3 = r at *
  generalize j / 3 = q at *
  subst hjj
  match r, hr with
  | 0, _ => injection e with e; rw [e]; exact h0
  | 1, _ => injection e with e; rw [e]; exact h1
  | 2, _ => injection e with e; rw [e]; exact h2
theorem ColsAt_of_own {w : World} {base e c : Nat} {A : Option Addr} {cs : List Col} (h : w.ownsRow base e 3 (.slice A cs.length c) cs.length (coCells cs)) : ColsAt w A cs := by
  rcases h.2 with ⟨_, hn⟩ | ⟨g, cap, cur, hv, hg, hh, hnc, hcap, hsz, htk⟩
  · exact .inl (List.eq_nil_of_length_eq_zero hn)
  · injection hv with h1 h2 h3
    subst h1
    refine .inr ⟨g, 0, rfl, lt_of_heap hh, fun i hi => ?_⟩
    have hc : ∀ j, j < 3 → w.cell? ⟨g, 0 + i * 3 + j, none⟩ = cs[i].cells[j]? := fun j hj => by
      rw [← coCells_at cs i hi j hj, Nat.zero_add]
      exact World.ownsRow.cellAt h (i * 3 + j) (by omega)
    exact ⟨hc 0 (by omega), hc 1 (by omega), hc 2 (by omega)⟩
theorem Firm.cols {w : World} {base c : Nat} {A : Option Addr} {cs : List Col} (h : w.ownsRow base 105 3 (.slice A cs.length c) cs.length (coCells cs)) : Firm (fun W => ColsAt W A cs) w :=
  Firm.of_own h (by decide) fun v hv => ColsAt_of_own hv
theorem Firm.nil (w : World) (A : Option Addr) : Firm (fun W => ColsAt W A []) w := fun _ _ => .inl rfl
def ColR (r : CR) (w' : World) (e : Ending) : Prop := ∃ (A : Option Addr) (c : Nat), e = .returned (.tuple #[.slice A r.1.length c, .int .i64 r.2]) ∧ Firm (fun W => ColsAt W A r.1) w'
theorem grow_err {cs : List Col} {f : Nat → Int} {g : Nat → Col} {n k : Nat} {x : Int} (hk : k < n) (h : ∀ j, j < k → f j = 0) (hx : f k = x) (h0 : x ≠ 0) : growS cs f g n = ([], x) := by
  have e : firstE f n = x := (firstE_hit h (by rw [hx]; exact h0) hk).trans hx
  unfold growS
  rw [if_neg (by rw [e]; exact h0), e]
theorem grow_all {cs : List Col} {f : Nat → Int} {g : Nat → Col} {n : Nat} (h : ∀ j, j < n → f j = 0) : growS cs f g n = manyS (cs ++ (List.range n).map g) := by
  unfold growS; rw [if_pos (firstE_none h)]
theorem grow_next (cs : List Col) (g : Nat → Col) (k : Nat) : coCells (cs ++ (List.range (k + 1)).map g) = coCells (cs ++ (List.range k).map g) ++ [str (g k).name, .int .i64 (g k).kind, .bool (g k).null] := by
  rw [List.range_succ, List.map_append, ← List.append_assoc]
  exact coCells_push _ _
theorem cells_3 {W : World} {B : Nat} {a b c : Value} {t : TypeId} (h : W.heap[B]? = some (.cells #[a, b, c] t)) : ∀ (j : Nat) (u : Value), [a, b, c][j]? = some u → W.cell? ((⟨B, 0, none⟩ : Addr).add j) = some u := by
  intro j u hu
  have ha : (⟨B, 0, none⟩ : Addr).add j = ⟨B, j, none⟩ := by unfold Addr.add; split <;> simp_all
  rw [ha, cell_of_heap h]
  match j, hu with
  | 0, hu => exact hu
  | 1, hu => exact hu
  | 2, hu => exact hu
  | j + 3, hu => simp at hu
theorem derE_at {cs : List Col} {its : List It} {k : Nat} (h : k < its.length) : derE cs its k = if (typS cs zonesL its[k].expr).2 ≠ 0 then (typS cs zonesL its[k].expr).2 else if (typS cs zonesL its[k].expr).1.1 = 0 then 7 else if 0 ≤ idxS cs its[k].name then 6 else 0 := by
  unfold derE; rw [List.getD_eq_getElem?_getD, List.getElem?_eq_getElem h]; rfl
theorem derC_at {cs : List Col} {its : List It} {k : Nat} (h : k < its.length) : derC cs its k = ⟨its[k].name, (typS cs zonesL its[k].expr).1.1, (typS cs zonesL its[k].expr).1.2⟩ := by
  unfold derC; rw [List.getD_eq_getElem?_getD, List.getElem?_eq_getElem h]; rfl
end Go.Proofs.YtmbeeefkpgfgmaaGreatDoor
