/- Contracts: slices.Contains of any strings; query.name, source, list. Contracts: query.when and its closure, query.first of any closures. The laid table of the fields of steps (query.used); contract: query.shaped. -/
import Derived.Test.YtmbeeefkpgfgmaaGreatDoorPq17
import Derived.Shelf.Abstract
import Derived.Test.YtmbeeefkpgfgmaaGreatDoorPq07
set_option linter.unusedVariables false
set_option linter.unusedSimpArgs false
namespace Go.Proofs.YtmbeeefkpgfgmaaGreatDoor
open Go.RowKit
theorem contains_str (A : Option Addr) (l : List Bytes) (c : Nat) (x : Bytes) (W : World) (h : StrsAt W A l) (hl : l.length ≤ 1000000) :
    Calls Tryz.prog 68 #[.slice A l.length c, str x] W fun e w' => e = .returned (.bool (decide (x ∈ l))) ∧ W = w' := by
  have hd : hasB l x = decide (x ∈ l) := by
    show l.contains x = _
    cases hc : l.contains x
    · symm; rw [decide_eq_false_iff_not]; intro hm; rw [← List.contains_iff_mem, hc] at hm; cases hm
    · symm; rw [decide_eq_true_eq]; exact List.contains_iff_mem.1 hc
  rcases h with e | ⟨g, off, rfl, hg, hc⟩
  · subst e
    refine (Any.slices_Contains_string_empty Tryz.lays110 A c ⟨x.toArray⟩ W).mono ?_
    rintro e w' ⟨rfl, rfl⟩
    exact ⟨ret_bool (by simp), rfl⟩
  · refine (contains_any g off c l ⟨x.toArray⟩ W (by omega) (fun j hj => by rw [hc j hj, List.getD_eq_getElem?_getD, List.getElem?_eq_getElem hj]; rfl)).mono ?_
    rintro e w' ⟨rfl, rfl⟩
    exact ⟨ret_bool hd, rfl⟩
set_option maxHeartbeats 1000000 in
theorem query_name_any (x : Bytes) (w : World) (hW : StrVar w 2 wordsS) : Calls Tryz.prog 50 #[str x] w fun e w' => e = .returned (.int .i64 (nameE x)) ∧ Below w.heap.size w w' := by
  have H1 := hide (fun W => schema_IsName_any ⟨x.toArray⟩ W)
  have H2 := hide (fun W (hb : Below w.heap.size w W) => token_Reserved_w ⟨x.toArray⟩ W (hW.below hb))
  have HE := hide (show nameE x = if (isNameB 24 x && !resB x) = true then 0 else 4 from rfl)
  rw [show bs ⟨x.toArray⟩ = x from rfl] at H1 H2
  clear hW
  generalize isNameB 24 x = p at *
  generalize resB x = q at *
  go_enter Tryz.func50, Tryz.ntmps50
  cases p <;> cases q
  all_goals
    go_wp2_with (first
      | (go_at_call 97; refine (H1.out _).mono ?_; rintro e w1 ⟨rfl, hb1⟩)
      | (go_at_call 89; refine (H2.out _ hb1).mono ?_; rintro e w' ⟨rfl, rfl⟩))
    go_ret
    exact ⟨ret_int HE.out.symm, hb1⟩
set_option maxHeartbeats 1000000 in
theorem query_source_any (x : Bytes) (b : Bool) (w : World) (hW : StrVar w 2 wordsS) (hx : x.length ≤ maxLen) :
    Calls Tryz.prog 38 #[str x, .bool b] w fun e w' => e = .returned (.int .i64 (if b = true then readE x else fromE x)) ∧ Below w.heap.size w w' := by
  have H1 := hide (fun W => schema_IsQualified_any ⟨x.toArray⟩ W (by show x.toArray.size ≤ _; simpa using hx))
  have H2 := hide (fun W (hb : Below w.heap.size w W) => token_Reserved_w ⟨x.toArray⟩ W (hW.below hb))
  rw [show bs ⟨x.toArray⟩ = x from rfl] at H1 H2
  clear hW hx
  by_cases hs : b = true ∧ x = selfB
  · obtain ⟨rfl, rfl⟩ := hs
    clear H1 H2
    go_enter Tryz.func38, Tryz.ntmps38
    go_wp2
    go_ret
    exact ⟨ret_int (by decide), Below.refl _ _⟩
  have HE := hide (show (if b = true then readE x else fromE x) = if (isQualB 24 x && !resB x) = true then 0 else 4 from by
    cases b
    · rfl
    · have : x ≠ selfB := fun e => hs ⟨rfl, e⟩
      rw [if_pos rfl]
      unfold readE
      rw [if_neg this]
      rfl)
  generalize (if b = true then readE x else fromE x) = r at *
  have hne : b = true → (x == selfB) = false := fun h => beq_eq_false_iff_ne.2 fun e => hs ⟨h, e⟩
  clear hs
  unfold selfB at hne
  generalize isQualB 24 x = p at *
  generalize resB x = q at *
  go_enter Tryz.func38, Tryz.ntmps38
  cases b
  · clear hne
    cases p <;> cases q
    all_goals
      go_wp2_with (first
        | (go_at_call 88; refine (H1.out _).mono ?_; rintro e w1 ⟨rfl, hb1⟩)
        | (go_at_call 89; refine (H2.out _ hb1).mono ?_; rintro e w' ⟨rfl, rfl⟩))
      go_ret
      exact ⟨ret_int HE.out.symm, hb1⟩
  · have hn2 := hne rfl
    clear hne
    cases p <;> cases q
    all_goals
      go_wp2_with (first
        | (go_at_call 88; refine (H1.out _).mono ?_; rintro e w1 ⟨rfl, hb1⟩)
        | (go_at_call 89; refine (H2.out _ hb1).mono ?_; rintro e w' ⟨rfl, rfl⟩))
      go_ret
      exact ⟨ret_int HE.out.symm, hb1⟩
set_option maxRecDepth 100000 in
set_option maxHeartbeats 1000000 in
theorem query_list_any (A : Option Addr) (l : List Bytes) (c m : Nat) (w : World) (hW : StrVar w 2 wordsS) (h : StrsAt w A l) (hl : l.length ≤ 1000000) (hm : m ≤ 1) (hcp : l.length ≤ c) :
    Calls Tryz.prog 42 #[.slice A l.length c, .int .i64 m] w fun e w' => e = .returned (.int .i64 (listS l m)) ∧ Below w.heap.size w w' := by
  have HA := hide h
  have HW := hide hW
  clear h hW
  by_cases h1 : l.length < m
  · have HE := hide (show listS l m = 2 from by unfold listS; rw [if_pos (.inl h1)])
    go_enter Tryz.func42, Tryz.ntmps42
    go_wp2
    go_ret
    exact ⟨ret_int HE.out.symm, Below.refl _ _⟩
  by_cases h2 : 12 < l.length
  · have HE := hide (show listS l m = 2 from by unfold listS; rw [if_pos (.inr h2)])
    go_enter Tryz.func42, Tryz.ntmps42
    go_wp2
    go_ret
    exact ⟨ret_int HE.out.symm, Below.refl _ _⟩
  have HE := hide (show listS l m = firstE (listE l) l.length from by unfold listS; rw [if_neg (by omega)])
  go_enter Tryz.func42, Tryz.ntmps42
  go_wp2
  go_loopw [19] (fun i wr => ∃ k : Nat, k ≤ l.length ∧ i = .int .i64 k ∧ Hid (∀ j, j < k → listE l j = 0) ∧ Below w.heap.size w wr) (fun i _ => l.length - (intOf i).toNat)
  case atStart => exact ⟨0, by omega, rfl, fun j hj => absurd hj (Nat.not_lt_zero _), Below.refl _ _⟩
  case round =>
    obtain ⟨k, hk, rfl, HZ, hbel⟩ := hrel
    by_cases hlt : k < l.length
    · rcases HA.out.below hbel with e | ⟨g, off, rfl, hg, hc⟩
      · exact absurd hlt (by rw [e]; simp)
      have c0 := hc k hlt
      have HC := hide (query_name_any l[k] wr (HW.out.below hbel))
      have HH := hide (fun W (hb : Below wr.heap.size wr W) => by
        have := contains_str (some ⟨g, off, none⟩) (l.take k) c l[k] W ((strs_take hg hc k).below hb) (by rw [List.length_take]; omega)
        rw [List.length_take, Nat.min_eq_left (Nat.le_of_lt hlt)] at this
        exact this)
      have HT := hide (listE_at hlt)
      have HF := hide (fun x (e : listE l k = x) (hx : x ≠ 0) => (HE.out.trans (firstE_hit HZ.out (by rw [e]; exact hx) hlt)).trans e)
      have HN := hide (fun (e : listE l k = 0) => step_lt HZ.out e)
      have hkc : k ≤ c := by omega
      clear hc
      unfold nameE at HC
      generalize l[k] = x at *
      by_cases hx : nmB x = true
      rotate_left
      · rw [if_neg hx] at HT HC
        have HR := hide (HF.out 4 HT.out (by decide))
        clear hx
        go_wp2_with (go_at_call 50; refine (HC.out).mono ?_; rintro e w1 ⟨rfl, hb1⟩)
        go_ret
        exact ⟨ret_int HR.out.symm, bel2 hb1 hbel⟩
      rw [if_pos hx] at HT HC
      by_cases hin : x ∈ l.take k
      · rw [if_pos hin] at HT
        have hinb : decide (x ∈ l.take k) = true := by simpa using hin
        rw [hinb] at HH
        have HR := hide (HF.out 6 HT.out (by decide))
        clear hin hinb hx
        go_wp2_with (first
          | (go_at_call 50; refine (HC.out).mono ?_; rintro e w1 ⟨rfl, hb1⟩)
          | (go_at_call 68; refine (HH.out _ hb1).mono ?_; rintro e w' ⟨rfl, rfl⟩))
        go_ret
        exact ⟨ret_int HR.out.symm, bel2 hb1 hbel⟩
      · rw [if_neg hin] at HT
        have hinb : decide (x ∈ l.take k) = false := by simpa using hin
        rw [hinb] at HH
        have HR := hide (HN.out HT.out)
        clear hin hinb hx
        go_wp2_with (first
          | (go_at_call 50; refine (HC.out).mono ?_; rintro e w1 ⟨rfl, hb1⟩)
          | (go_at_call 68; refine (HH.out _ hb1).mono ?_; rintro e w' ⟨rfl, rfl⟩))
        exact ⟨⟨k + 1, by omega, by go_num, HR, bel2 hb1 hbel⟩, by simp [intOf]; omega⟩
    · obtain rfl : k = l.length := by omega
      have HR := hide (HE.out.trans (firstE_none HZ.out))
      go_wp2
      go_ret
      exact ⟨ret_int HR.out.symm, hbel⟩
end Go.Proofs.YtmbeeefkpgfgmaaGreatDoor
namespace Go.Proofs.YtmbeeefkpgfgmaaGreatDoor
open Go.RowKit
abbrev atB0 (b : Nat) : Value := .pointer (some ⟨b, 0, none⟩)
theorem when1_any (b1 b2 : Nat) (p : Bool) (x : Int) (w : World) (h1 : w.cell? ⟨b1, 0, none⟩ = some (.bool p)) (h2 : w.cell? ⟨b2, 0, none⟩ = some (.int .i64 x)) :
    Calls Tryz.prog 90 #[atB0 b1, atB0 b2] w fun e w' => e = .returned (.int .i64 (if p = true then x else 0)) ∧ w = w' := by
  go_enter Tryz.func90, Tryz.ntmps90
  cases p
  all_goals
    go_wp2
    go_ret
    exact ⟨rfl, rfl⟩
theorem query_when_any (p : Bool) (x : Int) (w : World) :
    Calls Tryz.prog 44 #[.bool p, .int .i64 x] w fun e w' => e = .returned (.func (.func 90) #[] #[atB0 w.heap.size, atB0 (w.heap.size + 1)]) ∧ (w.alloc (.cells #[.bool p] 4)).alloc (.cells #[.int .i64 x] 34) = w' := by
  go_enter Tryz.func44, Tryz.ntmps44
  go_wp2
  go_ret
  exact ⟨rfl, rfl⟩
set_option maxRecDepth 100000 in
set_option maxHeartbeats 1000000 in
theorem query_first_any (B c : Nat) (fs : List (Nat × Array Value)) (f : Nat → Int) (w : World) (hB : B < w.heap.size) (hn : fs.length ≤ 10)
    (hc : ∀ j (h : j < fs.length), w.cell? ⟨B, j, none⟩ = some (.func (.func fs[j].1) #[] fs[j].2))
    (eg : ∀ j (h : j < fs.length) args W, (callFunc fs[j].1 args).run Tryz.prog W = .ok (.enter fs[j].1 args) W)
    (hp : ∀ j (h : j < fs.length) W, Below w.heap.size w W → Calls Tryz.prog fs[j].1 fs[j].2 W fun e w' => e = .returned (.int .i64 (f j)) ∧ Below w.heap.size w w') :
    Calls Tryz.prog 40 #[.slice (some ⟨B, 0, none⟩) fs.length c] w fun e w' => e = .returned (.int .i64 (firstE f fs.length)) ∧ Below w.heap.size w w' := by
  have HC := hide hc
  have HG := hide eg
  have HP := hide hp
  clear hc eg hp
  go_enter Tryz.func40, Tryz.ntmps40
  go_wp2
  go_loopw [8] (fun i wr => ∃ k : Nat, k ≤ fs.length ∧ i = .int .i64 k ∧ Hid (∀ j, j < k → f j = 0) ∧ Below w.heap.size w wr) (fun i _ => fs.length - (intOf i).toNat)
  case atStart => exact ⟨0, by omega, rfl, fun j hj => absurd hj (Nat.not_lt_zero _), Below.refl _ _⟩
  case round =>
    obtain ⟨k, hk, rfl, HZ, hbel⟩ := hrel
    by_cases hlt : k < fs.length
    · have c0 := (hbel.cell (p := ⟨B, k, none⟩) hB).trans (HC.out k hlt)
      have hcall := HP.out k hlt wr hbel
      have hgo := HG.out k hlt
      have HF := hide (fun (hx : f k ≠ 0) => firstE_hit HZ.out hx hlt)
      have HN := hide (fun (e : f k = 0) => step_lt HZ.out e)
      obtain ⟨⟨g, lb⟩, hgl⟩ : ∃ r, r = fs[k] := ⟨_, rfl⟩
      rw [← hgl] at c0 hcall hgo
      simp only at c0 hcall hgo
      clear hgl
      generalize f k = v at *
      by_cases hv : v = 0
      · subst hv
        have HR := hide (HN.out rfl)
        clear HF HN
        go_wp2_with (go_at_fn g; refine hcall.mono ?_; rintro e w1 ⟨rfl, hb1⟩)
        exact ⟨⟨k + 1, by omega, by go_num, HR, hb1⟩, by simp [intOf]; omega⟩
      · have hvb : (v != 0) = true := by simpa using hv
        have HR := hide (HF.out hv)
        clear HF HN
        go_wp2_with (go_at_fn g; refine hcall.mono ?_; rintro e w1 ⟨rfl, hb1⟩)
        go_ret
        exact ⟨ret_int HR.out.symm, hb1⟩
    · obtain rfl : k = fs.length := by omega
      have HR := hide (firstE_none HZ.out)
      go_wp2
      go_ret
      exact ⟨ret_int HR.out.symm, hbel⟩
end Go.Proofs.YtmbeeefkpgfgmaaGreatDoor
namespace Go.Proofs.YtmbeeefkpgfgmaaGreatDoor
open Go.RowKit
def usedL : List Bool := [true, false, false, false, false, false, false, false, false, true, false, false, false, true, false, false, true, false, false, false, true, true, true, true, false, true, true, true, true, false, true, true, true, false, false, true, true, true, false, false, true, false, false, false, false, true, false, false, false, false, false, false, false, false, false, false, true, false, true, false, false, true, true, true, false]
def UsedVar (w : World) : Prop := 0 < w.heap.size ∧ ∀ j, j < 65 → w.cell? ⟨0, j, none⟩ = some (.bool (usedL.getD j false))
theorem UsedVar.below {w w' : World} (h : UsedVar w) (hb : Below w.heap.size w w') : UsedVar w' := ⟨Nat.lt_of_lt_of_le h.1 hb.size, fun j hj => (hb.cell (p := ⟨_, _, none⟩) h.1).trans (h.2 j hj)⟩
set_option maxRecDepth 100000 in
set_option maxHeartbeats 8000000 in
theorem query_shaped_any (op : Int) (src : Bytes) (nA : Option Addr) (ln nC : Nat) (oA : Option Addr) (lo oC : Nat) (iA : Option Addr) (li iC : Nat) (cA : Option Addr) (lc cC : Nat) (w : World) (hU : UsedVar w) :
    Calls Tryz.prog 36 #[.agg #[.int .i64 op, str src, .slice nA ln nC, .slice oA lo oC, .slice iA li iC, .slice cA lc cC]] w fun e w' => e = .returned (.bool (decide (0 ≤ op ∧ op ≤ 12) && !unusedB op src ln lo li lc)) ∧ Below w.heap.size w w' := by
  by_cases hlo : op < 0
  · have HX := hide (show decide (0 ≤ op ∧ op ≤ 12) = false from by simp; omega)
    clear hU
    generalize unusedB op src ln lo li lc = ub
    go_enter Tryz.func36, Tryz.ntmps36
    go_wp2
    go_ret
    exact ⟨ret_bool (by first | (rw [HX.out]; rfl) | (simp; intros; omega) | (simp_all; done)), zX⟩
  by_cases hhi : 12 < op
  · have HX := hide (show decide (0 ≤ op ∧ op ≤ 12) = false from by simp; omega)
    clear hU
    generalize unusedB op src ln lo li lc = ub
    go_enter Tryz.func36, Tryz.ntmps36
    go_wp2
    go_ret
    exact ⟨ret_bool (by first | (rw [HX.out]; rfl) | (simp; intros; omega) | (simp_all; done)), zX⟩
  have hg := hU.1
  have hop : op = 0 ∨ op = 1 ∨ op = 2 ∨ op = 3 ∨ op = 4 ∨ op = 5 ∨ op = 6 ∨ op = 7 ∨ op = 8 ∨ op = 9 ∨ op = 10 ∨ op = 11 ∨ op = 12 := by omega
  clear hlo hhi
  rcases hop with rfl | rfl | rfl | rfl | rfl | rfl | rfl | rfl | rfl | rfl | rfl | rfl | rfl
  · have u0 : w.cell? ⟨0, 0, none⟩ = some (.bool true) := hU.2 0 (by decide)
    have u1 : w.cell? ⟨0, 1, none⟩ = some (.bool false) := hU.2 1 (by decide)
    have u2 : w.cell? ⟨0, 2, none⟩ = some (.bool false) := hU.2 2 (by decide)
    have u3 : w.cell? ⟨0, 3, none⟩ = some (.bool false) := hU.2 3 (by decide)
    have u4 : w.cell? ⟨0, 4, none⟩ = some (.bool false) := hU.2 4 (by decide)
    clear hU
    go_enter Tryz.func36, Tryz.ntmps36
    go_wp2
    all_goals
      go_ret
      exact ⟨ret_bool (by simp_all [unusedB] <;> first | omega | (cases lc <;> simp <;> omega) | (cases src <;> simp)), zX⟩
  · have u0 : w.cell? ⟨0, 5, none⟩ = some (.bool false) := hU.2 5 (by decide)
    have u1 : w.cell? ⟨0, 6, none⟩ = some (.bool false) := hU.2 6 (by decide)
    have u2 : w.cell? ⟨0, 7, none⟩ = some (.bool false) := hU.2 7 (by decide)
    have u3 : w.cell? ⟨0, 8, none⟩ = some (.bool false) := hU.2 8 (by decide)
    have u4 : w.cell? ⟨0, 9, none⟩ = some (.bool true) := hU.2 9 (by decide)
    clear hU
    go_enter Tryz.func36, Tryz.ntmps36
    go_wp2
    all_goals
      go_ret
      exact ⟨ret_bool (by simp_all [unusedB] <;> first | omega | (cases lc <;> simp <;> omega) | (cases src <;> simp)), zX⟩
  · have u0 : w.cell? ⟨0, 10, none⟩ = some (.bool false) := hU.2 10 (by decide)
    have u1 : w.cell? ⟨0, 11, none⟩ = some (.bool false) := hU.2 11 (by decide)
    have u2 : w.cell? ⟨0, 12, none⟩ = some (.bool false) := hU.2 12 (by decide)
    have u3 : w.cell? ⟨0, 13, none⟩ = some (.bool true) := hU.2 13 (by decide)
    have u4 : w.cell? ⟨0, 14, none⟩ = some (.bool false) := hU.2 14 (by decide)
    clear hU
    go_enter Tryz.func36, Tryz.ntmps36
    go_wp2
    all_goals
      go_ret
      exact ⟨ret_bool (by simp_all [unusedB] <;> first | omega | (cases lc <;> simp <;> omega) | (cases src <;> simp)), zX⟩
  · have u0 : w.cell? ⟨0, 15, none⟩ = some (.bool false) := hU.2 15 (by decide)
    have u1 : w.cell? ⟨0, 16, none⟩ = some (.bool true) := hU.2 16 (by decide)
    have u2 : w.cell? ⟨0, 17, none⟩ = some (.bool false) := hU.2 17 (by decide)
    have u3 : w.cell? ⟨0, 18, none⟩ = some (.bool false) := hU.2 18 (by decide)
    have u4 : w.cell? ⟨0, 19, none⟩ = some (.bool false) := hU.2 19 (by decide)
    clear hU
    go_enter Tryz.func36, Tryz.ntmps36
    go_wp2
    all_goals
      go_ret
      exact ⟨ret_bool (by simp_all [unusedB] <;> first | omega | (cases lc <;> simp <;> omega) | (cases src <;> simp)), zX⟩
  · have u0 : w.cell? ⟨0, 20, none⟩ = some (.bool true) := hU.2 20 (by decide)
    have u1 : w.cell? ⟨0, 21, none⟩ = some (.bool true) := hU.2 21 (by decide)
    have u2 : w.cell? ⟨0, 22, none⟩ = some (.bool true) := hU.2 22 (by decide)
    have u3 : w.cell? ⟨0, 23, none⟩ = some (.bool true) := hU.2 23 (by decide)
    have u4 : w.cell? ⟨0, 24, none⟩ = some (.bool false) := hU.2 24 (by decide)
    clear hU
    go_enter Tryz.func36, Tryz.ntmps36
    go_wp2
    all_goals
      go_ret
      exact ⟨ret_bool (by simp_all [unusedB] <;> first | omega | (cases lc <;> simp <;> omega) | (cases src <;> simp)), zX⟩
  · have u0 : w.cell? ⟨0, 25, none⟩ = some (.bool true) := hU.2 25 (by decide)
    have u1 : w.cell? ⟨0, 26, none⟩ = some (.bool true) := hU.2 26 (by decide)
    have u2 : w.cell? ⟨0, 27, none⟩ = some (.bool true) := hU.2 27 (by decide)
    have u3 : w.cell? ⟨0, 28, none⟩ = some (.bool true) := hU.2 28 (by decide)
    have u4 : w.cell? ⟨0, 29, none⟩ = some (.bool false) := hU.2 29 (by decide)
    clear hU
    go_enter Tryz.func36, Tryz.ntmps36
    go_wp2
    all_goals
      go_ret
      exact ⟨ret_bool (by simp_all [unusedB] <;> first | omega | (cases lc <;> simp <;> omega) | (cases src <;> simp)), zX⟩
  · have u0 : w.cell? ⟨0, 30, none⟩ = some (.bool true) := hU.2 30 (by decide)
    have u1 : w.cell? ⟨0, 31, none⟩ = some (.bool true) := hU.2 31 (by decide)
    have u2 : w.cell? ⟨0, 32, none⟩ = some (.bool true) := hU.2 32 (by decide)
    have u3 : w.cell? ⟨0, 33, none⟩ = some (.bool false) := hU.2 33 (by decide)
    have u4 : w.cell? ⟨0, 34, none⟩ = some (.bool false) := hU.2 34 (by decide)
    clear hU
    go_enter Tryz.func36, Tryz.ntmps36
    go_wp2
    all_goals
      go_ret
      exact ⟨ret_bool (by simp_all [unusedB] <;> first | omega | (cases lc <;> simp <;> omega) | (cases src <;> simp)), zX⟩
  · have u0 : w.cell? ⟨0, 35, none⟩ = some (.bool true) := hU.2 35 (by decide)
    have u1 : w.cell? ⟨0, 36, none⟩ = some (.bool true) := hU.2 36 (by decide)
    have u2 : w.cell? ⟨0, 37, none⟩ = some (.bool true) := hU.2 37 (by decide)
    have u3 : w.cell? ⟨0, 38, none⟩ = some (.bool false) := hU.2 38 (by decide)
    have u4 : w.cell? ⟨0, 39, none⟩ = some (.bool false) := hU.2 39 (by decide)
    clear hU
    go_enter Tryz.func36, Tryz.ntmps36
    go_wp2
    all_goals
      go_ret
      exact ⟨ret_bool (by simp_all [unusedB] <;> first | omega | (cases lc <;> simp <;> omega) | (cases src <;> simp)), zX⟩
  · have u0 : w.cell? ⟨0, 40, none⟩ = some (.bool true) := hU.2 40 (by decide)
    have u1 : w.cell? ⟨0, 41, none⟩ = some (.bool false) := hU.2 41 (by decide)
    have u2 : w.cell? ⟨0, 42, none⟩ = some (.bool false) := hU.2 42 (by decide)
    have u3 : w.cell? ⟨0, 43, none⟩ = some (.bool false) := hU.2 43 (by decide)
    have u4 : w.cell? ⟨0, 44, none⟩ = some (.bool false) := hU.2 44 (by decide)
    clear hU
    go_enter Tryz.func36, Tryz.ntmps36
    go_wp2
    all_goals
      go_ret
      exact ⟨ret_bool (by simp_all [unusedB] <;> first | omega | (cases lc <;> simp <;> omega) | (cases src <;> simp)), zX⟩
  · have u0 : w.cell? ⟨0, 45, none⟩ = some (.bool true) := hU.2 45 (by decide)
    have u1 : w.cell? ⟨0, 46, none⟩ = some (.bool false) := hU.2 46 (by decide)
    have u2 : w.cell? ⟨0, 47, none⟩ = some (.bool false) := hU.2 47 (by decide)
    have u3 : w.cell? ⟨0, 48, none⟩ = some (.bool false) := hU.2 48 (by decide)
    have u4 : w.cell? ⟨0, 49, none⟩ = some (.bool false) := hU.2 49 (by decide)
    clear hU
    go_enter Tryz.func36, Tryz.ntmps36
    go_wp2
    all_goals
      go_ret
      exact ⟨ret_bool (by simp_all [unusedB] <;> first | omega | (cases lc <;> simp <;> omega) | (cases src <;> simp)), zX⟩
  · have u0 : w.cell? ⟨0, 50, none⟩ = some (.bool false) := hU.2 50 (by decide)
    have u1 : w.cell? ⟨0, 51, none⟩ = some (.bool false) := hU.2 51 (by decide)
    have u2 : w.cell? ⟨0, 52, none⟩ = some (.bool false) := hU.2 52 (by decide)
    have u3 : w.cell? ⟨0, 53, none⟩ = some (.bool false) := hU.2 53 (by decide)
    have u4 : w.cell? ⟨0, 54, none⟩ = some (.bool false) := hU.2 54 (by decide)
    clear hU
    go_enter Tryz.func36, Tryz.ntmps36
    go_wp2
    all_goals
      go_ret
      exact ⟨ret_bool (by simp_all [unusedB] <;> first | omega | (cases lc <;> simp <;> omega) | (cases src <;> simp)), zX⟩
  · have u0 : w.cell? ⟨0, 55, none⟩ = some (.bool false) := hU.2 55 (by decide)
    have u1 : w.cell? ⟨0, 56, none⟩ = some (.bool true) := hU.2 56 (by decide)
    have u2 : w.cell? ⟨0, 57, none⟩ = some (.bool false) := hU.2 57 (by decide)
    have u3 : w.cell? ⟨0, 58, none⟩ = some (.bool true) := hU.2 58 (by decide)
    have u4 : w.cell? ⟨0, 59, none⟩ = some (.bool false) := hU.2 59 (by decide)
    clear hU
    go_enter Tryz.func36, Tryz.ntmps36
    go_wp2
    all_goals
      go_ret
      exact ⟨ret_bool (by simp_all [unusedB] <;> first | omega | (cases lc <;> simp <;> omega) | (cases src <;> simp)), zX⟩
  · have u0 : w.cell? ⟨0, 60, none⟩ = some (.bool false) := hU.2 60 (by decide)
    have u1 : w.cell? ⟨0, 61, none⟩ = some (.bool true) := hU.2 61 (by decide)
    have u2 : w.cell? ⟨0, 62, none⟩ = some (.bool true) := hU.2 62 (by decide)
    have u3 : w.cell? ⟨0, 63, none⟩ = some (.bool true) := hU.2 63 (by decide)
    have u4 : w.cell? ⟨0, 64, none⟩ = some (.bool false) := hU.2 64 (by decide)
    clear hU
    go_enter Tryz.func36, Tryz.ntmps36
    go_wp2
    all_goals
      go_ret
      exact ⟨ret_bool (by simp_all [unusedB] <;> first | omega | (cases lc <;> simp <;> omega) | (cases src <;> simp)), zX⟩
end Go.Proofs.YtmbeeefkpgfgmaaGreatDoor
