/- Contracts: thunks (closures without parameters that give an error), query.when, first over thunks; query.grouped, windowed; slices.ContainsFunc over items. Contracts: query.items$1, $2, $3; slices.IndexFunc, ContainsFunc over items; the order of the errors of an item. -/
import Derived.Test.YtmbeeefkpgfgmaaGreatDoorPq33
import Derived.Test.YtmbeeefkpgfgmaaGreatDoorPq20
import Derived.Test.YtmbeeefkpgfgmaaGreatDoorPq07
import Derived.Test.YtmbeeefkpgfgmaaGreatDoorPq17
set_option linter.unusedVariables false
set_option linter.unusedSimpArgs false
namespace Go.Proofs.YtmbeeefkpgfgmaaGreatDoor
open Go.RowKit
def Thunk (w : World) (g : Nat) (lb : Array Value) (v : Int) : Prop :=
  (∀ args W, (callFunc g args).run Tryz.prog W = .ok (.enter g args) W) ∧ ∀ W, Below w.heap.size w W → Calls Tryz.prog g lb W fun e W' => e = .returned (.int .i64 v) ∧ Below W.heap.size W W'
theorem Thunk.below {w w' : World} {g : Nat} {lb : Array Value} {v : Int} (h : Thunk w g lb v) (hb : Below w.heap.size w w') : Thunk w' g lb v := ⟨h.1, fun W hW => h.2 W (bel2 hW hb)⟩
theorem when_thunk (p : Bool) (x : Int) (w : World) :
    Calls Tryz.prog 44 #[.bool p, .int .i64 x] w fun e w' => (∃ (lb : Array Value) (v : Int), e = .returned (.func (.func 90) #[] lb) ∧ v = (if p = true then x else 0) ∧ Thunk w' 90 lb v) ∧ Below w.heap.size w w' := by
  refine (query_when_any p x w).mono ?_
  rintro e w' ⟨rfl, rfl⟩
  refine ⟨⟨_, _, rfl, rfl, fun args W => by kernel_rfl, fun W hW => ?_⟩, zX⟩
  have h1 : W.cell? ⟨w.heap.size, 0, none⟩ = some (.bool p) := by
    rw [hW.cell (p := ⟨w.heap.size, 0, none⟩) (by simp; omega)]
    simp [go_sem]
  have h2 : W.cell? ⟨w.heap.size + 1, 0, none⟩ = some (.int .i64 x) := by
    rw [hW.cell (p := ⟨w.heap.size + 1, 0, none⟩) (by simp)]
    simp [go_sem]
  refine (when1_any _ _ p x W h1 h2).mono ?_
  rintro e w' ⟨rfl, rfl⟩
  exact ⟨rfl, Below.refl _ _⟩
structure Thk where
  g : Nat
  lb : Array Value
  v : Int
theorem first_thunks (B c : Nat) (fs : List Thk) (w : World) (hB : B < w.heap.size) (hn : fs.length ≤ 10)
    (hc : ∀ j (h : j < fs.length), w.cell? ⟨B, j, none⟩ = some (.func (.func fs[j].g) #[] fs[j].lb)) (ht : ∀ j (h : j < fs.length), Thunk w fs[j].g fs[j].lb fs[j].v) :
    Calls Tryz.prog 40 #[.slice (some ⟨B, 0, none⟩) fs.length c] w fun e w' => e = .returned (.int .i64 (firstE (fun j => (fs.map Thk.v).getD j 0) fs.length)) ∧ Below w.heap.size w w' := by
  have hl : (fs.map fun t => (t.g, t.lb)).length = fs.length := by simp
  have H := query_first_any B c (fs.map fun t => (t.g, t.lb)) (fun j => (fs.map Thk.v).getD j 0) w hB (by simpa using hn)
    (fun j h => by have h' : j < fs.length := by simpa using h
                   simpa using hc j h')
    (fun j h => by have h' : j < fs.length := by simpa using h
                   simpa using (ht j h').1)
    (fun j h W hW => by
      have h' : j < fs.length := by simpa using h
      have h2 := (ht j h').2 W hW
      have e : (fs.map Thk.v).getD j 0 = fs[j].v := by rw [List.getD_eq_getElem?_getD, List.getElem?_eq_getElem (by simpa using h')]; simp
      simp only [List.getElem_map, e]
      exact h2.mono fun e w' ⟨h3, h4⟩ => ⟨h3, bel2 h4 hW⟩)
  rw [hl] at H
  exact H
set_option maxRecDepth 100000 in
set_option maxHeartbeats 2000000 in
theorem query_grouped_any (s : Stp) (a : Adr) (x : It) (E : Option Addr) (ec : Nat) (w : World) (hW : StrVar w 2 wordsS) (hN : StrsAt w a.nA s.names) (hl : s.names.length ≤ 1000000) :
    Calls Tryz.prog 54 #[s.agg a, itV x E ec] w fun e w' => e = .returned (.int .i64 (groupE s.names x)) ∧ Below w.heap.size w w' := by
  have HC := hide (fun W (hb : Below w.heap.size w W) => contains_str a.nA s.names a.nC x.name W (hN.below hb) hl)
  have HM := hide (fun W (hb : Below w.heap.size w W) => query_name_any x.col W (hW.below hb))
  have HX := hide (show groupE s.names x = if x.name ∈ s.names then 6 else if x.fn < 1 ∨ 7 < x.fn ∨ (x.fn = 1 ∧ x.col ≠ []) then 8 else if x.fn ≠ 1 then nameE x.col else 0 from rfl)
  clear hW hN hl
  obtain ⟨op, src, names, others, its, cond⟩ := s
  obtain ⟨nA, nC, oA, oC, iA, iC, cA, cC⟩ := a
  obtain ⟨xn, xf, xc, xm, xe⟩ := x
  simp only at HC HM HX
  show Calls Tryz.prog 54 #[.agg #[.int .i64 op, str src, .slice nA names.length nC, .slice oA others.length oC, .slice iA its.length iC, .slice cA cond.length cC], .agg #[str xn, .int .i64 xf, str xc, .int .i64 xm, .slice E xe.length ec]] w _
  generalize groupE _ _ = r at *
  generalize xe.length = le at *
  generalize names.length = ln at *
  generalize others.length = lo at *
  generalize its.length = li at *
  generalize cond.length = lc at *
  generalize nameE xc = v at *
  by_cases hm : xn ∈ names
  · have hb : decide (xn ∈ names) = true := by simpa using hm
    have HR := hide (HX.out.trans (if_pos hm))
    rw [hb] at HC
    clear HX hm hb HM
    go_enter Tryz.func54, Tryz.ntmps54
    go_wp2_with (go_at_call 68; refine (HC.out _ zX).mono ?_; rintro e w' ⟨rfl, rfl⟩)
    go_ret
    exact ⟨ret_int HR.out.symm, zX⟩
  have hb : decide (xn ∈ names) = false := by simpa using hm
  have HX2 := hide (HX.out.trans (if_neg hm))
  rw [hb] at HC
  clear HX hm hb
  by_cases h1 : xf = 1
  · subst h1
    by_cases hc : xc = []
    · subst hc
      have HR := hide (show r = 0 from by rw [HX2.out]; simp)
      clear HX2
      go_enter Tryz.func54, Tryz.ntmps54
      go_wp2_with (go_at_call 68; refine (HC.out _ zX).mono ?_; rintro e w' ⟨rfl, rfl⟩)
      go_ret
      exact ⟨ret_int HR.out.symm, zX⟩
    · have HR := hide (show r = 8 from by rw [HX2.out]; simp [hc])
      have q1 : xc.isEmpty = false := by cases xc; exact absurd rfl hc; rfl
      have q2 : (xc == []) = false := beq_eq_false_iff_ne.2 hc
      clear HX2
      go_enter Tryz.func54, Tryz.ntmps54
      go_wp2_with (go_at_call 68; refine (HC.out _ zX).mono ?_; rintro e w' ⟨rfl, rfl⟩)
      all_goals first | (exfalso; omega) | (exfalso; simp_all; done) | skip
      go_ret
      exact ⟨ret_int HR.out.symm, zX⟩
  by_cases h2 : xf < 1
  · have HR := hide (show r = 8 from by rw [HX2.out, if_pos (.inl h2)])
    clear HX2
    go_enter Tryz.func54, Tryz.ntmps54
    go_wp2_with (go_at_call 68; refine (HC.out _ zX).mono ?_; rintro e w' ⟨rfl, rfl⟩)
    all_goals first | (exfalso; omega) | skip
    go_ret
    exact ⟨ret_int HR.out.symm, zX⟩
  by_cases h3 : 7 < xf
  · have HR := hide (show r = 8 from by rw [HX2.out, if_pos (.inr (.inl h3))])
    clear HX2
    go_enter Tryz.func54, Tryz.ntmps54
    go_wp2_with (go_at_call 68; refine (HC.out _ zX).mono ?_; rintro e w' ⟨rfl, rfl⟩)
    all_goals first | (exfalso; omega) | skip
    go_ret
    exact ⟨ret_int HR.out.symm, zX⟩
  have HR := hide (show r = v from by rw [HX2.out, if_neg (by simp [h1]; omega), if_pos h1])
  have h1b : (xf != 1) = true := by simpa using h1
  clear HX2
  go_enter Tryz.func54, Tryz.ntmps54
  go_wp2_with (first
    | (go_at_call 68; refine (HC.out _ zX).mono ?_; rintro e w' ⟨rfl, rfl⟩)
    | (go_at_call 50; refine (HM.out _ zX).mono ?_; rintro e w' ⟨rfl, hb1⟩))
  all_goals first | (exfalso; omega) | skip
  go_ret
  exact ⟨ret_int HR.out.symm, by first | exact bel2 hb1 zX | exact zX⟩
set_option maxRecDepth 100000 in
set_option maxHeartbeats 8000000 in
theorem query_windowed_any (x : It) (E : Option Addr) (ec : Nat) (w : World) (hW : StrVar w 2 wordsS) :
    Calls Tryz.prog 58 #[itV x E ec] w fun e w' => e = .returned (.int .i64 (windowE x)) ∧ Below w.heap.size w w' := by
  have HM := hide (fun W (hb : Below w.heap.size w W) => show Calls Tryz.prog 50 #[str x.col] W (fun e w' => e = .returned (.int .i64 (if nmB x.col = true then 0 else 4)) ∧ Below W.heap.size W w') from query_name_any x.col W (hW.below hb))
  have HX := hide (show windowE x = if (winB x.fn).1 = false ∨ ((winB x.fn).2.1 = false ∧ x.col ≠ []) ∨ ((winB x.fn).2.2 = false ∧ x.num ≠ 0) then 8
    else if (winB x.fn).2.1 = true ∧ nmB x.col = false then 4 else if (winB x.fn).2.2 = true ∧ (x.num < 1 ∨ 4096 < x.num) then 1 else 0 from rfl)
  clear hW
  obtain ⟨xn, xf, xc, xm, xe⟩ := x
  simp only at HM HX
  show Calls Tryz.prog 58 #[.agg #[str xn, .int .i64 xf, str xc, .int .i64 xm, .slice E xe.length ec]] w _
  generalize windowE _ = r at *
  generalize xe.length = le at *
  generalize nmB xc = v at *
  by_cases h : xf = 1 ∨ xf = 8 ∨ xf = 9 ∨ xf = 3 ∨ xf = 12 ∨ xf = 13 ∨ xf = 10 ∨ xf = 11
  rotate_left
  · have e : winB xf = (false, false, false) := by unfold winB; rw [if_neg (by omega), if_neg (by omega), if_neg (by omega)]
    have HR := hide (show r = 8 from by rw [HX.out, e]; simp)
    have q1 : (xf == 1) = false := beq_eq_false_iff_ne.2 (by omega)
    have q3 : (xf == 3) = false := beq_eq_false_iff_ne.2 (by omega)
    have q8 : (xf == 8) = false := beq_eq_false_iff_ne.2 (by omega)
    have q9 : (xf == 9) = false := beq_eq_false_iff_ne.2 (by omega)
    have q10 : (xf == 10) = false := beq_eq_false_iff_ne.2 (by omega)
    have q11 : (xf == 11) = false := beq_eq_false_iff_ne.2 (by omega)
    have n1 : (xf != 1) = true := by simp [bne, q1]
    have n3 : (xf != 3) = true := by simp [bne, q3]
    have hsp : xf < 8 ∨ 13 < xf := by omega
    clear HX HM e h
    rcases hsp with hsp | hsp
    all_goals
      go_enter Tryz.func58, Tryz.ntmps58
      go_wp2
      all_goals first | (exfalso; omega) | (exfalso; simp_all; done) | skip
      go_ret
      exact ⟨ret_int HR.out.symm, zX⟩
  have hce : xc = [] ∨ (xc ≠ [] ∧ xc.isEmpty = false ∧ (xc == []) = false) := by
    by_cases hc : xc = []
    · exact .inl hc
    · exact .inr ⟨hc, by cases xc; exact absurd rfl hc; rfl, beq_eq_false_iff_ne.2 hc⟩
  have hme : xm = 0 ∨ (xm ≠ 0 ∧ (xm == 0) = false ∧ (xm != 0) = true) := by
    by_cases hc : xm = 0
    · exact .inl hc
    · exact .inr ⟨hc, beq_eq_false_iff_ne.2 hc, by simpa using hc⟩
  have hgr : (xf = 1 ∨ xf = 8 ∨ xf = 9) ∨ (xf = 3 ∨ xf = 12 ∨ xf = 13) ∨ (xf = 10 ∨ xf = 11) := by omega
  clear h
  rcases hgr with h | h | h
  · rcases h with rfl | rfl | rfl
    all_goals
      rcases hce with rfl | ⟨c1, c2, c3⟩
      · rcases hme with rfl | ⟨m1, m2, m3⟩
        · have HR := hide (show r = 0 from by rw [HX.out]; simp_all [winB] <;> omega)
          go_enter Tryz.func58, Tryz.ntmps58
          go_wp2_with (go_at_call 50; refine (HM.out _ zX).mono ?_; rintro e w' ⟨rfl, hb1⟩; have hcur := below_go (Below.refl (w.heap.size + 1) (w.alloc (.cells #[str xn, .int .i64 _, _, _, .slice E le ec] 61))) (by simp) hb1; obtain ⟨k0, k1, k2, k3, k4, hlw⟩ := box5 hcur)
          all_goals first | (exfalso; omega) | (exfalso; simp_all; done) | skip
          go_ret
          exact ⟨ret_int HR.out.symm, by first | exact bel2 hb1 zX | exact zX⟩
        · have HR := hide (show r = 8 from by rw [HX.out]; simp_all [winB] <;> omega)
          go_enter Tryz.func58, Tryz.ntmps58
          go_wp2_with (go_at_call 50; refine (HM.out _ zX).mono ?_; rintro e w' ⟨rfl, hb1⟩; have hcur := below_go (Below.refl (w.heap.size + 1) (w.alloc (.cells #[str xn, .int .i64 _, _, _, .slice E le ec] 61))) (by simp) hb1; obtain ⟨k0, k1, k2, k3, k4, hlw⟩ := box5 hcur)
          all_goals first | (exfalso; omega) | (exfalso; simp_all; done) | skip
          go_ret
          exact ⟨ret_int HR.out.symm, by first | exact bel2 hb1 zX | exact zX⟩
      · have HR := hide (show r = 8 from by rw [HX.out]; simp_all [winB] <;> omega)
        go_enter Tryz.func58, Tryz.ntmps58
        go_wp2_with (go_at_call 50; refine (HM.out _ zX).mono ?_; rintro e w' ⟨rfl, hb1⟩; have hcur := below_go (Below.refl (w.heap.size + 1) (w.alloc (.cells #[str xn, .int .i64 _, _, _, .slice E le ec] 61))) (by simp) hb1; obtain ⟨k0, k1, k2, k3, k4, hlw⟩ := box5 hcur)
        all_goals first | (exfalso; omega) | (exfalso; simp_all; done) | skip
        go_ret
        exact ⟨ret_int HR.out.symm, by first | exact bel2 hb1 zX | exact zX⟩
  · rcases h with rfl | rfl | rfl
    all_goals
      rcases hme with rfl | ⟨m1, m2, m3⟩
      · cases v
        · have HR := hide (show r = 4 from by rw [HX.out]; simp_all [winB] <;> omega)
          go_enter Tryz.func58, Tryz.ntmps58
          go_wp2_with (go_at_call 50; refine (HM.out _ zX).mono ?_; rintro e w' ⟨rfl, hb1⟩; have hcur := below_go (Below.refl (w.heap.size + 1) (w.alloc (.cells #[str xn, .int .i64 _, _, _, .slice E le ec] 61))) (by simp) hb1; obtain ⟨k0, k1, k2, k3, k4, hlw⟩ := box5 hcur)
          all_goals first | (exfalso; omega) | (exfalso; simp_all; done) | skip
          go_ret
          exact ⟨ret_int HR.out.symm, by first | exact bel2 hb1 zX | exact zX⟩
        · have HR := hide (show r = 0 from by rw [HX.out]; simp_all [winB] <;> omega)
          go_enter Tryz.func58, Tryz.ntmps58
          go_wp2_with (go_at_call 50; refine (HM.out _ zX).mono ?_; rintro e w' ⟨rfl, hb1⟩; have hcur := below_go (Below.refl (w.heap.size + 1) (w.alloc (.cells #[str xn, .int .i64 _, _, _, .slice E le ec] 61))) (by simp) hb1; obtain ⟨k0, k1, k2, k3, k4, hlw⟩ := box5 hcur)
          all_goals first | (exfalso; omega) | (exfalso; simp_all; done) | skip
          go_ret
          exact ⟨ret_int HR.out.symm, by first | exact bel2 hb1 zX | exact zX⟩
      · have HR := hide (show r = 8 from by rw [HX.out]; simp_all [winB] <;> omega)
        go_enter Tryz.func58, Tryz.ntmps58
        go_wp2_with (go_at_call 50; refine (HM.out _ zX).mono ?_; rintro e w' ⟨rfl, hb1⟩; have hcur := below_go (Below.refl (w.heap.size + 1) (w.alloc (.cells #[str xn, .int .i64 _, _, _, .slice E le ec] 61))) (by simp) hb1; obtain ⟨k0, k1, k2, k3, k4, hlw⟩ := box5 hcur)
        all_goals first | (exfalso; omega) | (exfalso; simp_all; done) | skip
        go_ret
        exact ⟨ret_int HR.out.symm, by first | exact bel2 hb1 zX | exact zX⟩
  · rcases h with rfl | rfl
    all_goals
      cases v
      · have HR := hide (show r = 4 from by rw [HX.out]; simp_all [winB] <;> omega)
        go_enter Tryz.func58, Tryz.ntmps58
        go_wp2_with (go_at_call 50; refine (HM.out _ zX).mono ?_; rintro e w' ⟨rfl, hb1⟩; have hcur := below_go (Below.refl (w.heap.size + 1) (w.alloc (.cells #[str xn, .int .i64 _, _, _, .slice E le ec] 61))) (by simp) hb1; obtain ⟨k0, k1, k2, k3, k4, hlw⟩ := box5 hcur)
        all_goals first | (exfalso; omega) | (exfalso; simp_all; done) | skip
        go_ret
        exact ⟨ret_int HR.out.symm, by first | exact bel2 hb1 zX | exact zX⟩
      · by_cases q1 : xm < 1
        · have HR := hide (show r = 1 from by rw [HX.out]; simp_all [winB] <;> omega)
          go_enter Tryz.func58, Tryz.ntmps58
          go_wp2_with (go_at_call 50; refine (HM.out _ zX).mono ?_; rintro e w' ⟨rfl, hb1⟩; have hcur := below_go (Below.refl (w.heap.size + 1) (w.alloc (.cells #[str xn, .int .i64 _, _, _, .slice E le ec] 61))) (by simp) hb1; obtain ⟨k0, k1, k2, k3, k4, hlw⟩ := box5 hcur)
          all_goals first | (exfalso; omega) | (exfalso; simp_all; done) | skip
          go_ret
          exact ⟨ret_int HR.out.symm, by first | exact bel2 hb1 zX | exact zX⟩
        · by_cases q2 : 4096 < xm
          · have HR := hide (show r = 1 from by rw [HX.out]; simp_all [winB] <;> omega)
            go_enter Tryz.func58, Tryz.ntmps58
            go_wp2_with (go_at_call 50; refine (HM.out _ zX).mono ?_; rintro e w' ⟨rfl, hb1⟩; have hcur := below_go (Below.refl (w.heap.size + 1) (w.alloc (.cells #[str xn, .int .i64 _, _, _, .slice E le ec] 61))) (by simp) hb1; obtain ⟨k0, k1, k2, k3, k4, hlw⟩ := box5 hcur)
            all_goals first | (exfalso; omega) | (exfalso; simp_all; done) | skip
            go_ret
            exact ⟨ret_int HR.out.symm, by first | exact bel2 hb1 zX | exact zX⟩
          · have HR := hide (show r = 0 from by rw [HX.out]; simp_all [winB] <;> omega)
            go_enter Tryz.func58, Tryz.ntmps58
            go_wp2_with (go_at_call 50; refine (HM.out _ zX).mono ?_; rintro e w' ⟨rfl, hb1⟩; have hcur := below_go (Below.refl (w.heap.size + 1) (w.alloc (.cells #[str xn, .int .i64 _, _, _, .slice E le ec] 61))) (by simp) hb1; obtain ⟨k0, k1, k2, k3, k4, hlw⟩ := box5 hcur)
            all_goals first | (exfalso; omega) | (exfalso; simp_all; done) | skip
            go_ret
            exact ⟨ret_int HR.out.symm, by first | exact bel2 hb1 zX | exact zX⟩
end Go.Proofs.YtmbeeefkpgfgmaaGreatDoor
namespace Go.Proofs.YtmbeeefkpgfgmaaGreatDoor
open Go.RowKit
theorem items1_thunk (b : Nat) (x : Bytes) (w : World) (hW : StrVar w 2 wordsS) (hb : b < w.heap.size) (hc : w.cell? ⟨b, 0, none⟩ = some (str x)) : Thunk w 93 #[atB0 b] (nameE x) := by
  refine ⟨fun args W => by kernel_rfl, fun W hW2 => ?_⟩
  have c0 := (hW2.cell (p := ⟨b, 0, none⟩) hb).trans hc
  have HM := hide (query_name_any x W (hW.below hW2))
  clear hW hc hW2
  generalize nameE x = v at *
  go_enter Tryz.func93, Tryz.ntmps93
  go_wp2_with (go_at_call 50; refine (HM.out).mono ?_; rintro e w1 ⟨rfl, hb1⟩)
  go_ret
  exact ⟨rfl, hb1⟩
theorem items2_any (b : Nat) (y : It) (E : Option Addr) (ec : Nat) (x : Bytes) (w : World) (hb : b < w.heap.size) (hc : w.cell? ⟨b, 0, none⟩ = some (str x)) :
    Calls Tryz.prog 95 #[itV y E ec, atB0 b] w fun e w' => e = .returned (.bool (decide (y.name = x))) ∧ Below w.heap.size w w' := by
  obtain ⟨yn, yf, yc, ym, ye⟩ := y
  show Calls Tryz.prog 95 #[.agg #[str yn, .int .i64 yf, str yc, .int .i64 ym, .slice E ye.length ec], atB0 b] w _
  generalize ye.length = le
  have c1 : (w.alloc (.cells #[str yn, .int .i64 yf, str yc, .int .i64 ym, .slice E le ec] 61)).cell? ⟨b, 0, none⟩ = some (str x) := by
    rw [World.cell?_alloc_lt _ _ _ hb]
    exact hc
  by_cases h : yn = x
  · have hb1 : (yn == x) = true := by simpa using h
    have HR := hide (show decide (yn = x) = true from by simpa using h)
    clear h
    go_enter Tryz.func95, Tryz.ntmps95
    go_wp2
    go_ret
    exact ⟨ret_bool HR.out.symm, zX⟩
  · have hb1 : (yn == x) = false := beq_eq_false_iff_ne.2 h
    have HR := hide (show decide (yn = x) = false from by simpa using h)
    clear h
    go_enter Tryz.func95, Tryz.ntmps95
    go_wp2
    go_ret
    exact ⟨ret_bool HR.out.symm, zX⟩
theorem items3_thunk (b1 b2 : Nat) (g : Nat) (lb : Array Value) (x : It) (E : Option Addr) (ec : Nat) (v : Int) (w : World) (h1 : b1 < w.heap.size) (h2 : b2 < w.heap.size)
    (hf : w.cell? ⟨b1, 0, none⟩ = some (.func (.func g) #[] lb)) (c0 : w.cell? ⟨b2, 0, none⟩ = some (str x.name)) (c1 : w.cell? ⟨b2, 1, none⟩ = some (.int .i64 x.fn)) (c2 : w.cell? ⟨b2, 2, none⟩ = some (str x.col)) (c3 : w.cell? ⟨b2, 3, none⟩ = some (.int .i64 x.num)) (c4 : w.cell? ⟨b2, 4, none⟩ = some (.slice E x.expr.length ec))
    (eg : ∀ args W, (callFunc g args).run Tryz.prog W = .ok (.enter g args) W)
    (hp : ∀ W, Below w.heap.size w W → Calls Tryz.prog g (#[itV x E ec] ++ lb) W fun e w' => e = .returned (.int .i64 v) ∧ Below W.heap.size W w') : Thunk w 96 #[atB0 b1, atB0 b2] v := by
  refine ⟨fun args W => by kernel_rfl, fun W hW => ?_⟩
  have d := (hW.cell (p := ⟨b1, 0, none⟩) h1).trans hf
  have d0 := (hW.cell (p := ⟨b2, 0, none⟩) h2).trans c0
  have d1 := (hW.cell (p := ⟨b2, 1, none⟩) h2).trans c1
  have d2 := (hW.cell (p := ⟨b2, 2, none⟩) h2).trans c2
  have d3 := (hW.cell (p := ⟨b2, 3, none⟩) h2).trans c3
  have d4 := (hW.cell (p := ⟨b2, 4, none⟩) h2).trans c4
  have HP := hide (hp W hW)
  clear hf c0 c1 c2 c3 c4 hp hW
  obtain ⟨xn, xf, xc, xm, xe⟩ := x
  simp only at d0 d1 d2 d3 d4 HP
  have HP2 := hide (show Calls Tryz.prog g (#[.agg #[str xn, .int .i64 xf, str xc, .int .i64 xm, .slice E xe.length ec]] ++ lb) W (fun e w' => e = .returned (.int .i64 v) ∧ Below W.heap.size W w') from HP.out)
  clear HP
  generalize xe.length = le at *
  go_enter Tryz.func96, Tryz.ntmps96
  go_wp2_with (go_at_fn g; refine (HP2.out).mono ?_; rintro e w1 ⟨rfl, hb1⟩)
  go_ret
  exact ⟨rfl, hb1⟩
theorem items_index (g off c k b : Nat) (its : List It) (x : Bytes) (w : World) (hg : g < w.heap.size) (hk : k ≤ its.length) (hl : its.length ≤ 1000000) (hA : ∀ i (h : i < its.length), ItAt w g (off + i * 5) its[i]) (hb : b < w.heap.size) (hc : w.cell? ⟨b, 0, none⟩ = some (str x)) :
    Calls Tryz.prog 161 #[.slice (some ⟨g, off, none⟩) k c, .func (.func 95) #[] #[atB0 b]] w fun e w' => (∃ i : Int, e = .returned (.int .i64 i) ∧ ((0 ≤ i) ↔ x ∈ (its.take k).map It.name)) ∧ Below w.heap.size w w' := by
  have HA := hide hA
  have HB := hide (fun W (h : Below w.heap.size w W) (y : It) (E : Option Addr) (ec : Nat) => items2_any b y E ec x W (Nat.lt_of_lt_of_le hb h.size) ((h.cell (p := ⟨b, 0, none⟩) hb).trans hc))
  have eg : ∀ args W, (callFunc 95 args).run Tryz.prog W = .ok (.enter 95 args) W := fun args W => by kernel_rfl
  clear hA hc
  go_enter Tryz.func161, Tryz.ntmps161
  go_wp2
  go_loopw [8] (fun i wr => ∃ n : Nat, n ≤ k ∧ i = .int .i64 n ∧ Hid (∀ j (h : j < its.length), j < n → its[j].name ≠ x) ∧ Below w.heap.size w wr) (fun i _ => k - (intOf i).toNat)
  case atStart => exact ⟨0, by omega, rfl, fun j h hj => absurd hj (Nat.not_lt_zero _), Below.refl _ _⟩
  case round =>
    obtain ⟨n, hn, rfl, HZ, hbel⟩ := hrel
    by_cases hlt : n < k
    · have hlt2 : n < its.length := by omega
      have hgw := Nat.lt_of_lt_of_le hg hbel.size
      obtain ⟨c0, c1, c2, c3, E, ec, c4, hE⟩ := (HA.out n hlt2).below hg hbel
      have HC := hide (HB.out wr hbel its[n] E ec)
      have HY := hide (fun (h : its[n].name ≠ x) => show ∀ j (h : j < its.length), j < n + 1 → its[j].name ≠ x from fun j h' hj => by
        by_cases e : j = n
        · subst e; exact h
        · exact HZ.out j h' (by omega))
      have HM := hide (fun (h : its[n].name = x) => show x ∈ (its.take k).map It.name from by
        refine List.mem_map.2 ⟨its[n], ?_, h⟩
        rw [List.mem_iff_getElem]
        exact ⟨n, by rw [List.length_take]; omega, List.getElem_take⟩)
      clear hE
      generalize its[n] = y at *
      obtain ⟨yn, yf, yc, ym, ye⟩ := y
      simp only at c0 c1 c2 c3 c4 HY HM
      have HC2 := hide (show Calls Tryz.prog 95 #[.agg #[str yn, .int .i64 yf, str yc, .int .i64 ym, .slice E ye.length ec], atB0 b] wr (fun e w' => e = .returned (.bool (decide (yn = x))) ∧ Below wr.heap.size wr w') from HC.out)
      clear HC
      generalize ye.length = le at *
      by_cases hx : yn = x
      · have HR := hide (HM.out hx)
        have hd : decide (yn = x) = true := by simpa using hx
        rw [hd] at HC2
        clear HY HM hx hd
        go_wp2_with (go_at_fn 95; refine (HC2.out).mono ?_; rintro e w1 ⟨rfl, hb1⟩)
        go_ret
        exact ⟨⟨n, rfl, iff_of_true (by omega) HR.out⟩, bel2 hb1 hbel⟩
      · have HR := hide (HY.out hx)
        have hd : decide (yn = x) = false := by simpa using hx
        rw [hd] at HC2
        clear HY HM hx hd
        go_wp2_with (go_at_fn 95; refine (HC2.out).mono ?_; rintro e w1 ⟨rfl, hb1⟩)
        exact ⟨⟨n + 1, by omega, by go_num, HR, bel2 hb1 hbel⟩, by simp [intOf]; omega⟩
    · obtain rfl : n = k := by omega
      have HR := hide (show ¬ x ∈ (its.take n).map It.name from fun hm => by
        obtain ⟨y, hy, e⟩ := List.mem_map.1 hm
        obtain ⟨j, hj, rfl⟩ := List.mem_iff_getElem.1 hy
        rw [List.length_take] at hj
        rw [List.getElem_take] at e
        exact HZ.out j (by omega) (by omega) e)
      go_wp2
      go_ret
      exact ⟨⟨-1, rfl, iff_of_false (by omega) HR.out⟩, hbel⟩
theorem items_has (g off c k b : Nat) (its : List It) (x : Bytes) (w : World) (hg : g < w.heap.size) (hk : k ≤ its.length) (hl : its.length ≤ 1000000) (hA : ∀ i (h : i < its.length), ItAt w g (off + i * 5) its[i]) (hb : b < w.heap.size) (hc : w.cell? ⟨b, 0, none⟩ = some (str x)) :
    Calls Tryz.prog 94 #[.slice (some ⟨g, off, none⟩) k c, .func (.func 95) #[] #[atB0 b]] w fun e w' => e = .returned (.bool (decide (x ∈ (its.take k).map It.name))) ∧ Below w.heap.size w w' := by
  have HI := hide (items_index g off c k b its x w hg hk hl hA hb hc)
  clear hA hc
  generalize (its.take k).map It.name = l at *
  go_enter Tryz.func94, Tryz.ntmps94
  by_cases hm : x ∈ l
  · have hd := hide (show decide (x ∈ l) = true from by simpa using hm)
    go_wp2_with (go_at_call 161; refine (HI.out).mono ?_; rintro e w1 ⟨⟨i, rfl, hi⟩, hb1⟩; have hi0 := hi.2 hm)
    all_goals first | (exfalso; omega) | skip
    go_ret
    exact ⟨ret_bool hd.out.symm, hb1⟩
  · have hd := hide (show decide (x ∈ l) = false from by simpa using hm)
    go_wp2_with (go_at_call 161; refine (HI.out).mono ?_; rintro e w1 ⟨⟨i, rfl, hi⟩, hb1⟩; have hi0 : ¬ 0 ≤ i := fun h => hm (hi.1 h))
    all_goals first | (exfalso; omega) | skip
    go_ret
    exact ⟨ret_bool hd.out.symm, hb1⟩
theorem seven (a b c d : Bool) (n u o : Int) : firstE (fun j => [if a = true then 8 else 0, if b = true then 8 else 0, if c = true then 8 else 0, if d = true then 8 else 0, n, u, o].getD j 0) 7 = if (a || b || c || d) = true then 8 else if n ≠ 0 then n else if u ≠ 0 then u else o := by
  cases a <;> cases b <;> cases c <;> cases d <;> by_cases hn : n = 0 <;> by_cases hu : u = 0 <;> simp [firstE, hn, hu]
theorem items_at {its : List It} {k : Nat} (h : k < its.length) (fB cB nB eB : Bool) (own : It → Int) (a b c d : Bool) (hs : (a || b || c || d) = shapeB its[k] fB cB nB eB) :
    firstE (fun j => [if a = true then 8 else 0, if b = true then 8 else 0, if c = true then 8 else 0, if d = true then 8 else 0, nameE its[k].name, if decide (its[k].name ∈ (its.take k).map It.name) = true then 6 else 0, own its[k]].getD j 0) 7 = if itemE its k fB cB nB eB = 0 then own its[k] else itemE its k fB cB nB eB := by
  rw [seven, hs, itemE_at h]
  unfold nameE
  cases shapeB its[k] fB cB nB eB <;> cases nmB its[k].name <;> by_cases hm : its[k].name ∈ (its.take k).map It.name <;> simp [hm]
end Go.Proofs.YtmbeeefkpgfgmaaGreatDoor
