/- Contracts: the small functions of ref8's parser. Contracts: join, the levels of binary operators of ref8's parser. Contracts: the levels of binary operators of ref8's parser. -/
import Derived.Test.YtlfedcbihbigoaaGreatDoorPsK
import Derived.Laws.AppendOwnNone
set_option linter.unusedVariables false
set_option linter.unusedSimpArgs false
namespace Go.Proofs.YtlfedcbihbigoaaGreatDoor
open Go.RowKit
abbrev RT : TypeId := 67
theorem body_ex {P : Program} {fn : Func} {R : Ending → World → Prop} {a : Act} {w : World} (hd : a.defers = []) (h : ∃ v, (results fn a.tmps).run P w = .ok v w ∧ R (.returned v) w) : bodyPost P fn R .ret a w :=
  let ⟨_, h1, h2⟩ := h; bodyPost_ret h1 hd h2
set_option maxRecDepth 100000 in
set_option maxHeartbeats 1000000 in
theorem r_peek (W : World) (P : Nat) (A : Option Addr) (ts : List Tok) (c i d : Nat) (e : Int) (hS : PSt RT W P A ts c i d e) (k : Nat) (hi : i + k < ts.length) (hl : ts.length ≤ 1000000) :
    Calls Tryz.prog 93 #[.pointer (some ⟨P, 0, none⟩), .int .i64 k] W fun e' w' => e' = .returned (tk ts (i + k)).agg ∧ Below W.heap.size W w' := by
  obtain ⟨c0, c1, c2, c3⟩ := hS.cells
  obtain ⟨g, off, rfl, hgP, t0, t1, t2, t3⟩ := hS.tok.at_ hi
  have hP := hS.lt
  have hg : g < W.heap.size := Nat.lt_trans hgP hP
  clear hS
  have hw1 : IntKind.i64.wrap ((i : Int) + (k : Int)) = (i : Int) + (k : Int) := IntWalk.i64_in _ (by omega)
  have hw2 : IntKind.i64.wrap ((ts.length : Int) - 1) = (ts.length : Int) - 1 := IntWalk.i64_in _ (by omega)
  have hmin : min ((i : Int) + (k : Int)) ((ts.length : Int) - 1) = (i : Int) + (k : Int) := by omega
  generalize tk ts (i + k) = t at *
  obtain ⟨tk0, tk1, tk2, tk3⟩ := t
  simp only at t0 t1 t2 t3
  go_enter Tryz.func93, Tryz.ntmps93
  go_wp2
  go_region
  go_wp2
  refine body_ex rfl ?_
  apply Exists.intro
  apply And.intro
  · simp [results, Tryz.results93, go_sem]
    rfl
  · exact ⟨rfl, by (repeat (first | exact Below.refl _ _ | assumption | refine Below.drew ?_ | refine below_drewN ?_ _ | refine Below.alloc ?_ (by first | omega | simp <;> omega) _ | refine Below.setCell ?_ (by first | omega | simp <;> omega) _))⟩
set_option maxRecDepth 100000 in
set_option maxHeartbeats 1000000 in
theorem r_is (W : World) (P : Nat) (A : Option Addr) (ts : List Tok) (c i d : Nat) (e : Int) (hS : PSt RT W P A ts c i d e) (hi : i < ts.length) (hl : ts.length ≤ 1000000) (x : Bytes) :
    Calls Tryz.prog 156 #[.pointer (some ⟨P, 0, none⟩), str x] W fun e' w' => e' = .returned (.bool (e == 0 && ((tk ts i).kind == 5 && (tk ts i).text == x))) ∧ Below W.heap.size W w' := by
  have HPk := hide (r_peek W P A ts c i d e hS 0 hi hl)
  have HS := hide hS
  clear hS
  rw [Nat.add_zero] at HPk
  generalize tk ts i = t at *
  obtain ⟨tk0, tk1, tk2, tk3⟩ := t
  go_enter Tryz.func156, Tryz.ntmps156
  go_wp2_with fail
  refine HPk.out.mono ?_
  rintro e1 w1 ⟨rfl, hb1⟩
  have hz1 := hb1.size
  have hS1 := HS.out.below hb1
  obtain ⟨c0, c1, c2, c3⟩ := hS1.cells
  have hP := hS1.lt
  clear hS1
  by_cases he : e = 0
  · subst he
    by_cases h1 : tk0 = 5
    · subst h1
      go_wp2
      go_ret
      exact ⟨ret_bool (by simp), by (repeat (first | exact Below.refl _ _ | assumption | refine Below.drew ?_ | refine below_drewN ?_ _ | refine Below.alloc ?_ (by first | omega | simp <;> omega) _ | refine Below.setCell ?_ (by first | omega | simp <;> omega) _))⟩
    · have hb : (tk0 == 5) = false := beq_eq_false_iff_ne.2 h1
      go_wp2
      go_ret
      exact ⟨ret_bool (by simp [hb]), by (repeat (first | exact Below.refl _ _ | assumption | refine Below.drew ?_ | refine below_drewN ?_ _ | refine Below.alloc ?_ (by first | omega | simp <;> omega) _ | refine Below.setCell ?_ (by first | omega | simp <;> omega) _))⟩
  · have hb : (e == 0) = false := beq_eq_false_iff_ne.2 he
    go_wp2
    go_ret
    exact ⟨ret_bool (by simp [hb]), by (repeat (first | exact Below.refl _ _ | assumption | refine Below.drew ?_ | refine below_drewN ?_ _ | refine Below.alloc ?_ (by first | omega | simp <;> omega) _ | refine Below.setCell ?_ (by first | omega | simp <;> omega) _))⟩
set_option maxRecDepth 100000 in
set_option maxHeartbeats 1000000 in
theorem r_word (W : World) (P : Nat) (A : Option Addr) (ts : List Tok) (c i d : Nat) (e : Int) (hS : PSt RT W P A ts c i d e) (hi : i < ts.length) (hl : ts.length ≤ 1000000) (x : Bytes) :
    Calls Tryz.prog 56 #[.pointer (some ⟨P, 0, none⟩), str x] W fun e' w' => e' = .returned (.bool (e == 0 && ((tk ts i).kind == 1 && (tk ts i).text == x))) ∧ Below W.heap.size W w' := by
  have HPk := hide (r_peek W P A ts c i d e hS 0 hi hl)
  have HS := hide hS
  clear hS
  rw [Nat.add_zero] at HPk
  generalize tk ts i = t at *
  obtain ⟨tk0, tk1, tk2, tk3⟩ := t
  go_enter Tryz.func56, Tryz.ntmps56
  go_wp2_with fail
  refine HPk.out.mono ?_
  rintro e1 w1 ⟨rfl, hb1⟩
  have hz1 := hb1.size
  have hS1 := HS.out.below hb1
  obtain ⟨c0, c1, c2, c3⟩ := hS1.cells
  have hP := hS1.lt
  clear hS1
  by_cases he : e = 0
  · subst he
    by_cases h1 : tk0 = 1
    · subst h1
      go_wp2
      go_ret
      exact ⟨ret_bool (by simp), by (repeat (first | exact Below.refl _ _ | assumption | refine Below.drew ?_ | refine below_drewN ?_ _ | refine Below.alloc ?_ (by first | omega | simp <;> omega) _ | refine Below.setCell ?_ (by first | omega | simp <;> omega) _))⟩
    · have hb : (tk0 == 1) = false := beq_eq_false_iff_ne.2 h1
      go_wp2
      go_ret
      exact ⟨ret_bool (by simp [hb]), by (repeat (first | exact Below.refl _ _ | assumption | refine Below.drew ?_ | refine below_drewN ?_ _ | refine Below.alloc ?_ (by first | omega | simp <;> omega) _ | refine Below.setCell ?_ (by first | omega | simp <;> omega) _))⟩
  · have hb : (e == 0) = false := beq_eq_false_iff_ne.2 he
    go_wp2
    go_ret
    exact ⟨ret_bool (by simp [hb]), by (repeat (first | exact Below.refl _ _ | assumption | refine Below.drew ?_ | refine below_drewN ?_ _ | refine Below.alloc ?_ (by first | omega | simp <;> omega) _ | refine Below.setCell ?_ (by first | omega | simp <;> omega) _))⟩
theorem r_constant (v : Vl) (w : World) : Calls Tryz.prog 195 #[v.agg] w fun e w' => OwnNds w w' [⟨0, v, [], 0⟩] e ∧ Below w.heap.size w w' := by
  have HO := hide (own_fresh (w.alloc (.cells #[.int .i64 v.kind, .int .i64 v.num, str v.text] 51)) (base := w.heap.size) (e := 53) (size := 6) (n := 1) (cur := #[.int .i64 0, .int .i64 v.kind, .int .i64 v.num, str v.text, str [], .int .i64 0]) (by simp) (by simp) (by decide))
  go_enter Tryz.func195, Tryz.ntmps195
  go_wp2
  go_ret
  refine ⟨⟨_, 1, by first | rfl | (simp; done), HO.out⟩, by (repeat (first | exact Below.refl _ _ | assumption | refine Below.drew ?_ | refine below_drewN ?_ _ | refine Below.alloc ?_ (by first | omega | simp <;> omega) _ | refine Below.setCell ?_ (by first | omega | simp <;> omega) _))⟩
theorem r_fail (W : World) (P : Nat) (A : Option Addr) (ts : List Tok) (c i d : Nat) (hS : PSt RT W P A ts c i d 0) (x : Int) :
    Calls Tryz.prog 157 #[.pointer (some ⟨P, 0, none⟩), .int .i64 x] W fun e' w' => e' = .returned (.slice none 0 0) ∧ PSt RT w' P A ts c i d x ∧ W.grownBy w' (some P) := by
  obtain ⟨c0, c1, c2, c3⟩ := hS.cells
  have hP := hS.lt
  have hf := hS.free
  have HS := hide (hS.setErr x)
  clear hS
  go_enter Tryz.func157, Tryz.ntmps157
  go_wp2
  go_ret
  exact ⟨rfl, HS.out, gr_set (World.grownBy.refl _ _) _ _⟩
theorem r_fail_no (W : World) (P : Nat) (A : Option Addr) (ts : List Tok) (c i d : Nat) (e : Int) (hS : PSt RT W P A ts c i d e) (he : e ≠ 0) (x : Int) :
    Calls Tryz.prog 157 #[.pointer (some ⟨P, 0, none⟩), .int .i64 x] W fun e' w' => e' = .returned (.slice none 0 0) ∧ Below W.heap.size W w' := by
  obtain ⟨c0, c1, c2, c3⟩ := hS.cells
  have hP := hS.lt
  have hb : (e == 0) = false := beq_eq_false_iff_ne.2 he
  clear hS
  go_enter Tryz.func157, Tryz.ntmps157
  go_wp2
  go_ret
  exact ⟨rfl, by (repeat (first | exact Below.refl _ _ | assumption | refine Below.drew ?_ | refine below_drewN ?_ _ | refine Below.alloc ?_ (by first | omega | simp <;> omega) _ | refine Below.setCell ?_ (by first | omega | simp <;> omega) _))⟩
theorem r_take_yes (W : World) (P : Nat) (A : Option Addr) (ts : List Tok) (c i d : Nat) (hS : PSt RT W P A ts c i d 0) (hi : i < ts.length) (hl : ts.length ≤ 1000000) (x : Bytes) (hb : isSym (tk ts i) x = true) :
    Calls Tryz.prog 197 #[.pointer (some ⟨P, 0, none⟩), str x] W fun e' w' => e' = .returned (.tuple #[]) ∧ PSt RT w' P A ts c (i + 1) d 0 ∧ W.grownBy w' (some P) := by
  have HI := hide (r_is W P A ts c i d 0 hS hi hl x)
  have hb2 : ((0 : Int) == 0 && ((tk ts i).kind == 5 && (tk ts i).text == x)) = true := hb
  rw [hb2] at HI
  have HS := hide hS
  clear hS hb hb2
  go_enter Tryz.func197, Tryz.ntmps197
  go_wp2_with fail
  refine HI.out.mono ?_
  rintro e w1 ⟨rfl, hb1⟩
  have hz1 := hb1.size
  have hS1 := HS.out.below hb1
  obtain ⟨c0, c1, c2, c3⟩ := hS1.cells
  have hP := hS1.lt
  have hf := hS1.free
  have HS1 := hide (hS1.setAt (i + 1))
  clear hS1
  go_wp2
  go_end0
  exact ⟨rfl, HS1.out, gr_set (grown_of_below hb1) _ _⟩
theorem r_take_no (W : World) (P : Nat) (A : Option Addr) (ts : List Tok) (c i d : Nat) (hS : PSt RT W P A ts c i d 0) (hi : i < ts.length) (hl : ts.length ≤ 1000000) (x : Bytes) (hb : isSym (tk ts i) x = false) :
    Calls Tryz.prog 197 #[.pointer (some ⟨P, 0, none⟩), str x] W fun e' w' => e' = .returned (.tuple #[]) ∧ PSt RT w' P A ts c i d 3 ∧ W.grownBy w' (some P) := by
  have HI := hide (r_is W P A ts c i d 0 hS hi hl x)
  have hb2 : ((0 : Int) == 0 && ((tk ts i).kind == 5 && (tk ts i).text == x)) = false := hb
  rw [hb2] at HI
  have HS := hide hS
  clear hS hb hb2
  go_enter Tryz.func197, Tryz.ntmps197
  go_wp2_with fail
  refine HI.out.mono ?_
  rintro e w1 ⟨rfl, hb1⟩
  go_wp2_with fail
  refine (r_fail w1 P A ts c i d (HS.out.below hb1) 3).mono ?_
  rintro e2 w2 ⟨rfl, hS2, hg2⟩
  have HS2 := hide hS2
  clear hS2
  go_wp2
  refine body_ex rfl ?_
  apply Exists.intro
  apply And.intro
  · simp [results, Tryz.results197, go_sem]
    rfl
  · exact ⟨rfl, HS2.out, (grown_of_below hb1).trans hg2⟩
theorem r_take_err (W : World) (P : Nat) (A : Option Addr) (ts : List Tok) (c i d : Nat) (e0 : Int) (hS : PSt RT W P A ts c i d e0) (he : e0 ≠ 0) (hi : i < ts.length) (hl : ts.length ≤ 1000000) (x : Bytes) :
    Calls Tryz.prog 197 #[.pointer (some ⟨P, 0, none⟩), str x] W fun e' w' => e' = .returned (.tuple #[]) ∧ Below W.heap.size W w' := by
  have HI := hide (r_is W P A ts c i d e0 hS hi hl x)
  have hb2 : (e0 == 0 && ((tk ts i).kind == 5 && (tk ts i).text == x)) = false := by rw [beq_eq_false_iff_ne.2 he]; rfl
  rw [hb2] at HI
  have HS := hide hS
  clear hS hb2
  go_enter Tryz.func197, Tryz.ntmps197
  go_wp2_with fail
  refine HI.out.mono ?_
  rintro e w1 ⟨rfl, hb1⟩
  go_wp2_with fail
  refine (r_fail_no w1 P A ts c i d e0 (HS.out.below hb1) he 3).mono ?_
  rintro e2 w2 ⟨rfl, hb2⟩
  go_wp2
  refine body_ex rfl ?_
  apply Exists.intro
  apply And.intro
  · simp [results, Tryz.results197, go_sem]
    rfl
  · exact ⟨rfl, bel2 hb2 hb1⟩
theorem r_deep_yes (W : World) (P : Nat) (A : Option Addr) (ts : List Tok) (c i d : Nat) (hS : PSt RT W P A ts c i d 0) (hd : 256 < d) :
    Calls Tryz.prog 126 #[.pointer (some ⟨P, 0, none⟩)] W fun e' w' => e' = .returned (.bool true) ∧ PSt RT w' P A ts c i d 2 ∧ W.grownBy w' (some P) := by
  have HS := hide hS
  obtain ⟨c0, c1, c2, c3⟩ := hS.cells
  have hP := hS.lt
  clear hS
  go_enter Tryz.func126, Tryz.ntmps126
  go_wp2_with fail
  refine (r_fail W P A ts c i d HS.out 2).mono ?_
  rintro e2 w2 ⟨rfl, hS2, hg2⟩
  clear c0 c1 c2 c3
  obtain ⟨c0, c1, c2, c3⟩ := hS2.cells
  have hP2 := hS2.lt
  have HS2 := hide hS2
  clear hS2
  go_wp2
  go_ret
  exact ⟨rfl, HS2.out, hg2⟩
theorem r_deep_no (W : World) (P : Nat) (A : Option Addr) (ts : List Tok) (c i d : Nat) (hS : PSt RT W P A ts c i d 0) (hd : ¬ 256 < d) :
    Calls Tryz.prog 126 #[.pointer (some ⟨P, 0, none⟩)] W fun e' w' => e' = .returned (.bool false) ∧ Below W.heap.size W w' := by
  obtain ⟨c0, c1, c2, c3⟩ := hS.cells
  have hP := hS.lt
  clear hS
  go_enter Tryz.func126, Tryz.ntmps126
  go_wp2
  go_ret
  exact ⟨rfl, by (repeat (first | exact Below.refl _ _ | assumption | refine Below.drew ?_ | refine below_drewN ?_ _ | refine Below.alloc ?_ (by first | omega | simp <;> omega) _ | refine Below.setCell ?_ (by first | omega | simp <;> omega) _))⟩
theorem r_deep_err (W : World) (P : Nat) (A : Option Addr) (ts : List Tok) (c i d : Nat) (e : Int) (hS : PSt RT W P A ts c i d e) (he : e ≠ 0) :
    Calls Tryz.prog 126 #[.pointer (some ⟨P, 0, none⟩)] W fun e' w' => e' = .returned (.bool true) ∧ Below W.heap.size W w' := by
  obtain ⟨c0, c1, c2, c3⟩ := hS.cells
  have hP := hS.lt
  have hb : (e == 0) = false := beq_eq_false_iff_ne.2 he
  have hn : (e != 0) = true := by simpa using he
  clear hS
  go_enter Tryz.func126, Tryz.ntmps126
  go_wp2
  go_ret
  exact ⟨rfl, by (repeat (first | exact Below.refl _ _ | assumption | refine Below.drew ?_ | refine below_drewN ?_ _ | refine Below.alloc ?_ (by first | omega | simp <;> omega) _ | refine Below.setCell ?_ (by first | omega | simp <;> omega) _))⟩
end Go.Proofs.YtlfedcbihbigoaaGreatDoor

namespace Go.Proofs.YtlfedcbihbigoaaGreatDoor
open Go.RowKit
set_option maxRecDepth 100000 in
set_option maxHeartbeats 2000000 in
theorem r_join (W : World) (A B : Option Addr) (es fs : List Nd) (ca cb ba bb : Nat) (o : Int) (hA : W.ownsRow ba 53 6 (.slice A es.length ca) es.length (ndCells es)) (hB : W.ownsRow bb 53 6 (.slice B fs.length cb) fs.length (ndCells fs)) (h1 : es.length ≤ 1000000) (h2 : fs.length ≤ 1000000) :
    Calls Tryz.prog 57 #[.slice A es.length ca, .slice B fs.length cb, .int .i64 o] W fun e w' => OwnNds W w' (es ++ fs ++ [opNd o]) e ∧ Below W.heap.size W w' := by
  obtain ⟨i0, hi0, hz0, hz1, hz2⟩ := info_parts Tryz.info_nd
  have HA := hide hA
  have HB := hide hB
  have a1 := own_addr hA
  have a2 := own_addr hB
  clear hA hB
  rcases a1 with ⟨rfl, l1, rfl⟩ | ⟨ga, rfl⟩ <;> rcases a2 with ⟨rfl, l2, rfl⟩ | ⟨gb, rfl⟩
  · obtain rfl : es = [] := List.eq_nil_of_length_eq_zero l1
    clear l1
    obtain rfl : fs = [] := List.eq_nil_of_length_eq_zero l2
    clear l2
    try simp only [List.length_nil] at *
    go_enter Tryz.func57, Tryz.ntmps57
    go_wp2_with (first
      | (at_builtin; refine wpList_append_own_none rfl _ _ _ rfl _ 53 i0 6 Tryz.underlying30 hi0 _ _ _ rfl (own_nil W W.heap.size 53 6) rfl ?_)
      | (at_builtin; refine wpList_append_own_none rfl _ _ _ rfl _ 53 i0 6 Tryz.underlying30 hi0 _ _ _ rfl (own_nil W W.heap.size 53 6) rfl ?_)
      | (at_builtin; refine wpList_append_own _ rfl _ _ 30 rfl W.heap.size 53 i0 _ 6 64 Tryz.underlying30 hi0 hz0 hz1 hz2 rfl (by decide) _ _ _ rfl ((own_nil W W.heap.size 53 6).alloc _) ⟨W.heap.size, 0, none⟩ 1 1 [.int .i64 o, .int .i64 0, .int .i64 0, str [], str [], .int .i64 0] rfl rfl (by exact cells_6 (heap_alloc_new _ _)) (by simp [Value.oneCell']) (by unfold maxLen; omega) (by omega) (by first | (simp; done) | (simp; omega)) ?_; intro v9 w9 o9 g9 _; obtain ⟨B9, n9, rfl⟩ := own_form o9; have hb9 : Below W.heap.size W w9 := (Below.alloc (Below.refl W.heap.size W) (by omega) _).grown g9 (by first | (simp; done) | (simp; omega)) (fun k hk => ((own_nil W W.heap.size 53 6).lt k hk).1)))
    go_ret
    exact ⟨⟨B9, n9, by first | rfl | (simp; done) | (simp; omega), by first | exact own_nd o9 | simpa [ndCells_append, ndCells, Nd.cells, opNd, vl0] using o9⟩, hb9⟩
  · obtain rfl : es = [] := List.eq_nil_of_length_eq_zero l1
    clear l1
    have hcb := (orow_cells HB.out).2.2
    try simp only [List.length_nil] at *
    go_enter Tryz.func57, Tryz.ntmps57
    go_wp2_with (first
      | (at_builtin; refine wpList_append_own_none rfl _ _ _ rfl _ 53 i0 6 Tryz.underlying30 hi0 _ _ _ rfl (own_nil W W.heap.size 53 6) rfl ?_)
      | (at_builtin; refine wpList_append_own _ rfl _ _ 30 rfl W.heap.size 53 i0 _ 6 64 Tryz.underlying30 hi0 hz0 hz1 hz2 rfl (by decide) _ _ _ rfl (own_nil W W.heap.size 53 6) ⟨gb, 0, none⟩ fs.length cb (ndCells fs) rfl (ndCells_len _) hcb (nd_one _) (by unfold maxLen; omega) (by omega) (by omega) ?_; intro v8 w8 o8 g8 _; obtain ⟨B8, n8, rfl⟩ := own_form o8; rw [Nat.zero_add, List.nil_append] at o8; have hb8 : Below W.heap.size W w8 := (Below.refl W.heap.size W).grown g8 (by omega) (fun k hk => by cases hk); have hz8 := hb8.size; clear g8)
      | (at_builtin; refine wpList_append_own _ rfl _ _ 30 rfl W.heap.size 53 i0 _ 6 64 Tryz.underlying30 hi0 hz0 hz1 hz2 rfl (by decide) _ _ _ rfl (o8.alloc _) ⟨w8.heap.size, 0, none⟩ 1 1 [.int .i64 o, .int .i64 0, .int .i64 0, str [], str [], .int .i64 0] rfl rfl (by exact cells_6 (heap_alloc_new _ _)) (by simp [Value.oneCell']) (by unfold maxLen; omega) (by omega) (by first | (simp; done) | (simp; omega)) ?_; intro v9 w9 o9 g9 _; obtain ⟨B9, n9, rfl⟩ := own_form o9; have hb9 : Below W.heap.size W w9 := (Below.alloc hb8 (by omega) _).grown g9 (by first | (simp; done) | (simp; omega)) (fun k hk => (o8.lt k hk).1)))
    go_ret
    exact ⟨⟨B9, n9, by first | rfl | (simp; done) | (simp; omega), by first | exact own_nd o9 | simpa [ndCells_append, ndCells, Nd.cells, opNd, vl0] using o9⟩, hb9⟩
  · have ha := (orow_cells HA.out).2.2
    obtain rfl : fs = [] := List.eq_nil_of_length_eq_zero l2
    clear l2
    try simp only [List.length_nil] at *
    go_enter Tryz.func57, Tryz.ntmps57
    go_wp2_with (first
      | (at_builtin; refine wpList_append_own _ rfl _ _ 30 rfl W.heap.size 53 i0 _ 6 64 Tryz.underlying30 hi0 hz0 hz1 hz2 rfl (by decide) _ _ _ rfl (own_nil W W.heap.size 53 6) ⟨ga, 0, none⟩ es.length ca (ndCells es) rfl (ndCells_len _) ha (nd_one _) (by unfold maxLen; omega) (by omega) (by omega) ?_; intro v7 w7 o7 g7 _; obtain ⟨B7, n7, rfl⟩ := own_form o7; rw [Nat.zero_add, List.nil_append] at o7; have hb7 : Below W.heap.size W w7 := (Below.refl _ _).grown g7 (Nat.le_refl _) (fun k hk => by cases hk); have hz7 := hb7.size; clear g7)
      | (at_builtin; refine wpList_append_own_none rfl _ _ _ rfl _ 53 i0 6 Tryz.underlying30 hi0 _ _ _ rfl o7 rfl ?_)
      | (at_builtin; refine wpList_append_own _ rfl _ _ 30 rfl W.heap.size 53 i0 _ 6 64 Tryz.underlying30 hi0 hz0 hz1 hz2 rfl (by decide) _ _ _ rfl (o7.alloc _) ⟨w7.heap.size, 0, none⟩ 1 1 [.int .i64 o, .int .i64 0, .int .i64 0, str [], str [], .int .i64 0] rfl rfl (by exact cells_6 (heap_alloc_new _ _)) (by simp [Value.oneCell']) (by unfold maxLen; omega) (by omega) (by first | (simp; done) | (simp; omega)) ?_; intro v9 w9 o9 g9 _; obtain ⟨B9, n9, rfl⟩ := own_form o9; have hb9 : Below W.heap.size W w9 := (Below.alloc hb7 (by omega) _).grown g9 (by first | (simp; done) | (simp; omega)) (fun k hk => (o7.lt k hk).1)))
    go_ret
    exact ⟨⟨B9, n9, by first | rfl | (simp; done) | (simp; omega), by first | exact own_nd o9 | simpa [ndCells_append, ndCells, Nd.cells, opNd, vl0] using o9⟩, hb9⟩
  · have ha := (orow_cells HA.out).2.2
    have hcb := (orow_cells HB.out).2.2
    try simp only [List.length_nil] at *
    go_enter Tryz.func57, Tryz.ntmps57
    go_wp2_with (first
      | (at_builtin; refine wpList_append_own _ rfl _ _ 30 rfl W.heap.size 53 i0 _ 6 64 Tryz.underlying30 hi0 hz0 hz1 hz2 rfl (by decide) _ _ _ rfl (own_nil W W.heap.size 53 6) ⟨ga, 0, none⟩ es.length ca (ndCells es) rfl (ndCells_len _) ha (nd_one _) (by unfold maxLen; omega) (by omega) (by omega) ?_; intro v7 w7 o7 g7 _; obtain ⟨B7, n7, rfl⟩ := own_form o7; rw [Nat.zero_add, List.nil_append] at o7; have hb7 : Below W.heap.size W w7 := (Below.refl _ _).grown g7 (Nat.le_refl _) (fun k hk => by cases hk); have hz7 := hb7.size; clear g7)
      | (at_builtin; refine wpList_append_own _ rfl _ _ 30 rfl W.heap.size 53 i0 _ 6 64 Tryz.underlying30 hi0 hz0 hz1 hz2 rfl (by decide) _ _ _ rfl o7 ⟨gb, 0, none⟩ fs.length cb (ndCells fs) rfl (ndCells_len _) (fun j u hu => (orow_cells (own_below HB.out hb7)).2.2 j u hu) (nd_one _) (by unfold maxLen; omega) (by omega) (by omega) ?_; intro v8 w8 o8 g8 _; obtain ⟨B8, n8, rfl⟩ := own_form o8; have hb8 : Below W.heap.size W w8 := hb7.grown g8 (by omega) (fun k hk => (o7.lt k hk).1); have hz8 := hb8.size; clear g8)
      | (at_builtin; refine wpList_append_own _ rfl _ _ 30 rfl W.heap.size 53 i0 _ 6 64 Tryz.underlying30 hi0 hz0 hz1 hz2 rfl (by decide) _ _ _ rfl (o8.alloc _) ⟨w8.heap.size, 0, none⟩ 1 1 [.int .i64 o, .int .i64 0, .int .i64 0, str [], str [], .int .i64 0] rfl rfl (by exact cells_6 (heap_alloc_new _ _)) (by simp [Value.oneCell']) (by unfold maxLen; omega) (by omega) (by first | (simp; done) | (simp; omega)) ?_; intro v9 w9 o9 g9 _; obtain ⟨B9, n9, rfl⟩ := own_form o9; have hb9 : Below W.heap.size W w9 := (Below.alloc hb8 (by omega) _).grown g9 (by first | (simp; done) | (simp; omega)) (fun k hk => (o8.lt k hk).1)))
    go_ret
    exact ⟨⟨B9, n9, by first | rfl | (simp; done) | (simp; omega), by first | exact own_nd o9 | simpa [ndCells_append, ndCells, Nd.cells, opNd, vl0] using o9⟩, hb9⟩
/-- A function of the reference's parser at a level. -/
def LvR (K F l P : Nat) (A : Option Addr) (ts : List Tok) (c : Nat) : Prop := ∀ (W : World) (i d : Nat), PSt RT W P A ts c i d 0 → i < ts.length → d ≤ i → (l = 8 → begB ts i = true) → (ts.length - i) * 10 + (9 - l) ≤ F →
  Calls Tryz.prog K #[.pointer (some ⟨P, 0, none⟩)] W (PPost RT W P A ts c i d (prs ts F l i d))
end Go.Proofs.YtlfedcbihbigoaaGreatDoor

namespace Go.Proofs.YtlfedcbihbigoaaGreatDoor
open Go.RowKit
set_option maxRecDepth 100000 in
set_option maxHeartbeats 2000000 in
theorem r_or (F P : Nat) (A : Option Addr) (ts : List Tok) (c : Nat) (hv : valT ts = true) (hlen : ts.length ≤ 1000000) (IH : LvR 55 F 1 P A ts c) : LvR 32 (F + 1) 0 P A ts c := by
  intro W i d hS hi hd _ hF
  have hne := prs_ne hv (F + 1) 0 i d hi (by omega) (fun e => absurd e (by omega)) hF
  rw [prs_chn (by decide)] at hne ⊢
  have hP := hS.lt
  have HI := hide (show ∀ (X : World) (j : Nat), PSt RT X P A ts c j d 0 → W.grownBy X (some P) → j < ts.length → i ≤ j → Calls Tryz.prog 55 #[.pointer (some ⟨P, 0, none⟩)] X (fun e2 w2 => ∃ (B2 : Option Addr) (n2 : Nat) (fs : List Nd) (k d2 : Nat) (x2 : Int), e2 = .returned (.slice B2 fs.length n2) ∧ w2.ownsRow W.heap.size 53 6 (.slice B2 fs.length n2) fs.length (ndCells fs) ∧ PSt RT w2 P A ts c k d2 x2 ∧ W.grownBy w2 (some P) ∧ X.grownBy w2 (some P) ∧ j ≤ k ∧ k < ts.length ∧ fs.length ≤ k - j ∧
      ((x2 = 0 ∧ d2 = d ∧ j < k ∧ prs ts F 1 j d = .ok fs k) ∨ (x2 ≠ 0 ∧ prs ts F 1 j d = .err x2 k ∧ d ≤ d2 ∧ d2 ≤ k))) from fun X j hx hg hj hij =>
    (IH X j d hx hj (by omega) (fun e => absurd e (by omega)) (by omega)).mono fun e2 w2 h => by
      obtain ⟨B2, n2, fs, k, d2, x2, h1, h2, h3, h4, h5, h6, h7, h8⟩ := ppost_open (prs_fact hv F 1 j d hj (fun e => absurd e (by omega))) h
      exact ⟨B2, n2, fs, k, d2, x2, h1, own_low h2 hg.size, h3, hg.trans h4, h4, h5, h6, h7, h8⟩)
  have HS := hide hS
  clear hS IH
  generalize hq : (fun j => prs ts F 1 j d) = q at *
  have HQ := hide (fun j => congrFun hq j)
  have hqi : prs ts F 1 i d = q i := congrFun hq i
  rw [hqi] at hne ⊢
  clear hq hqi
  generalize hRR : (q i).bind (chainG q (opOf 0) ts ts.length) = R at *
  have HR := hide hRR
  clear hRR
  go_enter Tryz.func32, Tryz.ntmps32
  go_wp2_with fail
  refine (HI.out W i HS.out (World.grownBy.refl _ _) hi (Nat.le_refl _)).mono ?_
  rw [HQ.out i]
  rintro e2 w1 ⟨B, n, es, j, d', x, rfl, ho, hs, hg, _, hij, hjl, hel, hD⟩
  have HD0 := hide (show (x = 0 ∧ d' = d ∧ i < j ∧ ∃ G, chainG q (opOf 0) ts G es j = R) ∨ (x ≠ 0 ∧ R = .err x j ∧ d ≤ d' ∧ d' ≤ j) from by
    have hr := HR.out
    rcases hD with ⟨h1, h2, h3, h4⟩ | ⟨h1, h2, h3⟩
    · rw [h4] at hr; exact .inl ⟨h1, h2, h3, _, hr⟩
    · rw [h2] at hr; exact .inr ⟨h1, hr.symm, h3⟩)
  have HO := hide ho
  have HSx := hide hs
  have HG := hide hg
  clear ho hs hg hD HR HS
  go_wp2
  go_loopw [3] (fun s wr => ∃ (B : Option Addr) (n : Nat) (es : List Nd) (j d' : Nat) (x : Int), s = .slice B es.length n ∧ Hid (wr.ownsRow W.heap.size 53 6 (.slice B es.length n) es.length (ndCells es)) ∧ Hid (PSt RT wr P A ts c j d' x) ∧ Hid (W.grownBy wr (some P)) ∧ i ≤ j ∧ j < ts.length ∧ es.length ≤ j - i ∧ Hid ((x = 0 ∧ d' = d ∧ i < j ∧ ∃ G, chainG q (opOf 0) ts G es j = R) ∨ (x ≠ 0 ∧ R = .err x j ∧ d ≤ d' ∧ d' ≤ j))) (fun _ wr => msr P ts wr)
  case atStart => exact ⟨B, n, es, j, d', x, rfl, HO, HSx, HG, hij, hjl, hel, HD0⟩
  case round =>
    clear HO HSx HG hij hjl hel HD0
    obtain ⟨B, n, es, j, d', x, rfl, HO, HSx, HG, hij, hjl, hel, HD⟩ := hrel
    have hPr := HSx.out.lt
    have hWw := HG.out.size
    have hcur := Below.refl wr.heap.size wr
    by_cases hx : x = 0
    rotate_left
    · rcases HD.out with ⟨h, _⟩ | ⟨_, hE, hdE⟩
      · exact absurd h hx
      have HE := hide hE
      have HF := hide (show ∀ (X : World) (y : Bytes), Below wr.heap.size wr X → Calls Tryz.prog 56 #[.pointer (some ⟨P, 0, none⟩), str y] X (fun e' w' => e' = .returned (.bool false) ∧ Below X.heap.size X w') from fun X y hb => by
        have h := r_word X P A ts c j d' x (HSx.out.below hb) hjl hlen y
        rw [beq_eq_false_iff_ne.2 hx] at h
        exact h)
      clear hE
      go_wp2_with (go_at_call 56; refine (HF.out _ _ hcur).mono ?_; rintro e9 w9 ⟨rfl, hb9⟩; have hcur := bel2 hb9 hcur)
      go_ret
      rw [HE.out]
      exact ⟨gr_bel HG.out hcur, es, d', ⟨B, n, rfl, own_below HO.out hcur⟩, hij, hel, hdE, HSx.out.below hcur⟩
    rcases HD.out with ⟨_, hdd, hij2, G, hG⟩ | ⟨h, _⟩
    rotate_left
    · exact absurd hx h
    subst hx hdd
    have hG2 : (match opOf 0 (tk ts j) with
      | none => PR.ok es j
      | some o => (q (j + 1)).bind fun fs k => chainG q (opOf 0) ts (G - 1) (es ++ fs ++ [opNd o]) k) = R := by
      cases G with
      | zero => exact absurd hG.symm hne
      | succ G => exact hG
    clear hG HD
    have HF := hide (show ∀ (X : World) (y : Bytes), Below wr.heap.size wr X → Calls Tryz.prog 56 #[.pointer (some ⟨P, 0, none⟩), str y] X (fun e' w' => e' = .returned (.bool (isWord (tk ts j) y)) ∧ Below X.heap.size X w') from fun X y hb => r_word X P A ts c j d' 0 (HSx.out.below hb) hjl hlen y)
    by_cases t0 : isWord (tk ts j) [111, 114] = true
    · have hop : opOf 0 (tk ts j) = some 15 := by unfold opOf; simp [t0]
      rw [hop] at hG2
      have HE := hide hG2
      have hj1 := word_next hv hjl t0
      clear hG2 hop
      have HPX := hide (show ∀ X : World, Below wr.heap.size wr X → PSt RT (X.setCell ⟨P, 1, none⟩ (.int .i64 ((j + 1 : Nat) : Int))) P A ts c (j + 1) d' 0 ∧ W.grownBy (X.setCell ⟨P, 1, none⟩ (.int .i64 ((j + 1 : Nat) : Int))) (some P) ∧ (X.setCell ⟨P, 1, none⟩ (.int .i64 ((j + 1 : Nat) : Int))).ownsRow W.heap.size 53 6 (.slice B es.length n) es.length (ndCells es) from fun X hb => ⟨(HSx.out.below hb).setAt (j + 1), gr_set (gr_bel HG.out hb) 1 _, own_fr (own_below HO.out hb) (gr_set (World.grownBy.refl X (some P)) 1 (.int .i64 ((j + 1 : Nat) : Int))) hP⟩)
      go_wp2_with (first
          | (go_at_call_of 56 (Value.string { data := #[111, 114] }); refine (HF.out _ [111, 114] hcur).mono ?_; (first | rw [t0] | rw [f0]); rintro e9 w9 ⟨rfl, hb9⟩; have hcur := bel2 hb9 hcur; have hS9 := HSx.out.below hcur; obtain ⟨c0, c1, c2, c3⟩ := hS9.cells; have hP9 := hS9.lt; have hfr := hS9.free; clear hS9))
      refine (HI.out _ (j + 1) (HPX.out w9 hcur).1 (HPX.out w9 hcur).2.1 hj1 (by omega)).mono ?_
      rw [HQ.out (j + 1)]
      rintro e2 w2 ⟨B2, n2, fs, k, d2, x2, rfl, ho2, hs2, hg2, hgx, hjk, hkl, hfl, hD2⟩
      have HO2 := hide (own_fr (HPX.out w9 hcur).2.2 hgx hP)
      have HJ := hide (fun (o : Int) => r_join w2 B B2 es fs n n2 W.heap.size W.heap.size o HO2.out ho2 (by omega) (by omega))
      have HS2 := hide hs2
      have HG2 := hide hg2
      have HD2 := hide hD2
      have hz2 := hg2.size
      clear ho2 hs2 hg2 hgx hD2 c0 c1 c2 c3 hfr HF HPX HI
      go_wp2_with fail
      refine (HJ.out 15).mono ?_
      rintro e3 w3 ⟨⟨B3, n3, rfl, ho3⟩, hb3⟩
      have HO3 := hide (own_low ho3 hz2)
      have HS3 := hide (HS2.out.below hb3)
      have HG3 := hide (gr_bel HG2.out hb3)
      clear ho3 HJ
      go_wp2
      refine ⟨⟨B3, n3, es ++ fs ++ [opNd 15], k, d2, x2, by first | rfl | (simp; done), HO3, HS3, HG3, by omega, hkl, by simp only [List.length_append, List.length_singleton]; omega, hide ?_⟩, ?_⟩
      · rcases HD2.out with ⟨e1, e2, e3, e4⟩ | ⟨e1, e4, e5⟩
        · refine .inl ⟨e1, e2, by omega, G - 1, ?_⟩
          have hE := HE.out
          try simp only at hE
          rw [e4] at hE
          exact hE
        · refine .inr ⟨e1, ?_, e5⟩
          have hE := HE.out
          try simp only at hE
          rw [e4] at hE
          exact hE.symm
      · rw [msr_eq HS3.out, msr_eq HSx.out]
        split <;> simp <;> omega
    have f0 : isWord (tk ts j) [111, 114] = false := by simpa using t0
    clear t0
    have hop : opOf 0 (tk ts j) = none := by unfold opOf; simp [f0]
    rw [hop] at hG2
    have HE := hide hG2
    clear hG2 hop
    go_wp2_with (first
          | (go_at_call_of 56 (Value.string { data := #[111, 114] }); refine (HF.out _ [111, 114] hcur).mono ?_; (first | rw [t0] | rw [f0]); rintro e9 w9 ⟨rfl, hb9⟩; have hcur := bel2 hb9 hcur))
    go_ret
    have hE := HE.out
    try simp only at hE
    rw [← hE]
    exact ⟨gr_bel HG.out hcur, ⟨B, n, rfl, own_below HO.out hcur⟩, HSx.out.below hcur⟩
set_option maxRecDepth 100000 in
set_option maxHeartbeats 2000000 in
theorem r_and (F P : Nat) (A : Option Addr) (ts : List Tok) (c : Nat) (hv : valT ts = true) (hlen : ts.length ≤ 1000000) (IH : LvR 92 F 2 P A ts c) : LvR 55 (F + 1) 1 P A ts c := by
  intro W i d hS hi hd _ hF
  have hne := prs_ne hv (F + 1) 1 i d hi (by omega) (fun e => absurd e (by omega)) hF
  rw [prs_chn (by decide)] at hne ⊢
  have hP := hS.lt
  have HI := hide (show ∀ (X : World) (j : Nat), PSt RT X P A ts c j d 0 → W.grownBy X (some P) → j < ts.length → i ≤ j → Calls Tryz.prog 92 #[.pointer (some ⟨P, 0, none⟩)] X (fun e2 w2 => ∃ (B2 : Option Addr) (n2 : Nat) (fs : List Nd) (k d2 : Nat) (x2 : Int), e2 = .returned (.slice B2 fs.length n2) ∧ w2.ownsRow W.heap.size 53 6 (.slice B2 fs.length n2) fs.length (ndCells fs) ∧ PSt RT w2 P A ts c k d2 x2 ∧ W.grownBy w2 (some P) ∧ X.grownBy w2 (some P) ∧ j ≤ k ∧ k < ts.length ∧ fs.length ≤ k - j ∧
      ((x2 = 0 ∧ d2 = d ∧ j < k ∧ prs ts F 2 j d = .ok fs k) ∨ (x2 ≠ 0 ∧ prs ts F 2 j d = .err x2 k ∧ d ≤ d2 ∧ d2 ≤ k))) from fun X j hx hg hj hij =>
    (IH X j d hx hj (by omega) (fun e => absurd e (by omega)) (by omega)).mono fun e2 w2 h => by
      obtain ⟨B2, n2, fs, k, d2, x2, h1, h2, h3, h4, h5, h6, h7, h8⟩ := ppost_open (prs_fact hv F 2 j d hj (fun e => absurd e (by omega))) h
      exact ⟨B2, n2, fs, k, d2, x2, h1, own_low h2 hg.size, h3, hg.trans h4, h4, h5, h6, h7, h8⟩)
  have HS := hide hS
  clear hS IH
  generalize hq : (fun j => prs ts F 2 j d) = q at *
  have HQ := hide (fun j => congrFun hq j)
  have hqi : prs ts F 2 i d = q i := congrFun hq i
  rw [hqi] at hne ⊢
  clear hq hqi
  generalize hRR : (q i).bind (chainG q (opOf 1) ts ts.length) = R at *
  have HR := hide hRR
  clear hRR
  go_enter Tryz.func55, Tryz.ntmps55
  go_wp2_with fail
  refine (HI.out W i HS.out (World.grownBy.refl _ _) hi (Nat.le_refl _)).mono ?_
  rw [HQ.out i]
  rintro e2 w1 ⟨B, n, es, j, d', x, rfl, ho, hs, hg, _, hij, hjl, hel, hD⟩
  have HD0 := hide (show (x = 0 ∧ d' = d ∧ i < j ∧ ∃ G, chainG q (opOf 1) ts G es j = R) ∨ (x ≠ 0 ∧ R = .err x j ∧ d ≤ d' ∧ d' ≤ j) from by
    have hr := HR.out
    rcases hD with ⟨h1, h2, h3, h4⟩ | ⟨h1, h2, h3⟩
    · rw [h4] at hr; exact .inl ⟨h1, h2, h3, _, hr⟩
    · rw [h2] at hr; exact .inr ⟨h1, hr.symm, h3⟩)
  have HO := hide ho
  have HSx := hide hs
  have HG := hide hg
  clear ho hs hg hD HR HS
  go_wp2
  go_loopw [3] (fun s wr => ∃ (B : Option Addr) (n : Nat) (es : List Nd) (j d' : Nat) (x : Int), s = .slice B es.length n ∧ Hid (wr.ownsRow W.heap.size 53 6 (.slice B es.length n) es.length (ndCells es)) ∧ Hid (PSt RT wr P A ts c j d' x) ∧ Hid (W.grownBy wr (some P)) ∧ i ≤ j ∧ j < ts.length ∧ es.length ≤ j - i ∧ Hid ((x = 0 ∧ d' = d ∧ i < j ∧ ∃ G, chainG q (opOf 1) ts G es j = R) ∨ (x ≠ 0 ∧ R = .err x j ∧ d ≤ d' ∧ d' ≤ j))) (fun _ wr => msr P ts wr)
  case atStart => exact ⟨B, n, es, j, d', x, rfl, HO, HSx, HG, hij, hjl, hel, HD0⟩
  case round =>
    clear HO HSx HG hij hjl hel HD0
    obtain ⟨B, n, es, j, d', x, rfl, HO, HSx, HG, hij, hjl, hel, HD⟩ := hrel
    have hPr := HSx.out.lt
    have hWw := HG.out.size
    have hcur := Below.refl wr.heap.size wr
    by_cases hx : x = 0
    rotate_left
    · rcases HD.out with ⟨h, _⟩ | ⟨_, hE, hdE⟩
      · exact absurd h hx
      have HE := hide hE
      have HF := hide (show ∀ (X : World) (y : Bytes), Below wr.heap.size wr X → Calls Tryz.prog 56 #[.pointer (some ⟨P, 0, none⟩), str y] X (fun e' w' => e' = .returned (.bool false) ∧ Below X.heap.size X w') from fun X y hb => by
        have h := r_word X P A ts c j d' x (HSx.out.below hb) hjl hlen y
        rw [beq_eq_false_iff_ne.2 hx] at h
        exact h)
      clear hE
      go_wp2_with (go_at_call 56; refine (HF.out _ _ hcur).mono ?_; rintro e9 w9 ⟨rfl, hb9⟩; have hcur := bel2 hb9 hcur)
      go_ret
      rw [HE.out]
      exact ⟨gr_bel HG.out hcur, es, d', ⟨B, n, rfl, own_below HO.out hcur⟩, hij, hel, hdE, HSx.out.below hcur⟩
    rcases HD.out with ⟨_, hdd, hij2, G, hG⟩ | ⟨h, _⟩
    rotate_left
    · exact absurd hx h
    subst hx hdd
    have hG2 : (match opOf 1 (tk ts j) with
      | none => PR.ok es j
      | some o => (q (j + 1)).bind fun fs k => chainG q (opOf 1) ts (G - 1) (es ++ fs ++ [opNd o]) k) = R := by
      cases G with
      | zero => exact absurd hG.symm hne
      | succ G => exact hG
    clear hG HD
    have HF := hide (show ∀ (X : World) (y : Bytes), Below wr.heap.size wr X → Calls Tryz.prog 56 #[.pointer (some ⟨P, 0, none⟩), str y] X (fun e' w' => e' = .returned (.bool (isWord (tk ts j) y)) ∧ Below X.heap.size X w') from fun X y hb => r_word X P A ts c j d' 0 (HSx.out.below hb) hjl hlen y)
    by_cases t0 : isWord (tk ts j) [97, 110, 100] = true
    · have hop : opOf 1 (tk ts j) = some 14 := by unfold opOf; simp [t0]
      rw [hop] at hG2
      have HE := hide hG2
      have hj1 := word_next hv hjl t0
      clear hG2 hop
      have HPX := hide (show ∀ X : World, Below wr.heap.size wr X → PSt RT (X.setCell ⟨P, 1, none⟩ (.int .i64 ((j + 1 : Nat) : Int))) P A ts c (j + 1) d' 0 ∧ W.grownBy (X.setCell ⟨P, 1, none⟩ (.int .i64 ((j + 1 : Nat) : Int))) (some P) ∧ (X.setCell ⟨P, 1, none⟩ (.int .i64 ((j + 1 : Nat) : Int))).ownsRow W.heap.size 53 6 (.slice B es.length n) es.length (ndCells es) from fun X hb => ⟨(HSx.out.below hb).setAt (j + 1), gr_set (gr_bel HG.out hb) 1 _, own_fr (own_below HO.out hb) (gr_set (World.grownBy.refl X (some P)) 1 (.int .i64 ((j + 1 : Nat) : Int))) hP⟩)
      go_wp2_with (first
          | (go_at_call_of 56 (Value.string { data := #[97, 110, 100] }); refine (HF.out _ [97, 110, 100] hcur).mono ?_; (first | rw [t0] | rw [f0]); rintro e9 w9 ⟨rfl, hb9⟩; have hcur := bel2 hb9 hcur; have hS9 := HSx.out.below hcur; obtain ⟨c0, c1, c2, c3⟩ := hS9.cells; have hP9 := hS9.lt; have hfr := hS9.free; clear hS9))
      refine (HI.out _ (j + 1) (HPX.out w9 hcur).1 (HPX.out w9 hcur).2.1 hj1 (by omega)).mono ?_
      rw [HQ.out (j + 1)]
      rintro e2 w2 ⟨B2, n2, fs, k, d2, x2, rfl, ho2, hs2, hg2, hgx, hjk, hkl, hfl, hD2⟩
      have HO2 := hide (own_fr (HPX.out w9 hcur).2.2 hgx hP)
      have HJ := hide (fun (o : Int) => r_join w2 B B2 es fs n n2 W.heap.size W.heap.size o HO2.out ho2 (by omega) (by omega))
      have HS2 := hide hs2
      have HG2 := hide hg2
      have HD2 := hide hD2
      have hz2 := hg2.size
      clear ho2 hs2 hg2 hgx hD2 c0 c1 c2 c3 hfr HF HPX HI
      go_wp2_with fail
      refine (HJ.out 14).mono ?_
      rintro e3 w3 ⟨⟨B3, n3, rfl, ho3⟩, hb3⟩
      have HO3 := hide (own_low ho3 hz2)
      have HS3 := hide (HS2.out.below hb3)
      have HG3 := hide (gr_bel HG2.out hb3)
      clear ho3 HJ
      go_wp2
      refine ⟨⟨B3, n3, es ++ fs ++ [opNd 14], k, d2, x2, by first | rfl | (simp; done), HO3, HS3, HG3, by omega, hkl, by simp only [List.length_append, List.length_singleton]; omega, hide ?_⟩, ?_⟩
      · rcases HD2.out with ⟨e1, e2, e3, e4⟩ | ⟨e1, e4, e5⟩
        · refine .inl ⟨e1, e2, by omega, G - 1, ?_⟩
          have hE := HE.out
          try simp only at hE
          rw [e4] at hE
          exact hE
        · refine .inr ⟨e1, ?_, e5⟩
          have hE := HE.out
          try simp only at hE
          rw [e4] at hE
          exact hE.symm
      · rw [msr_eq HS3.out, msr_eq HSx.out]
        split <;> simp <;> omega
    have f0 : isWord (tk ts j) [97, 110, 100] = false := by simpa using t0
    clear t0
    have hop : opOf 1 (tk ts j) = none := by unfold opOf; simp [f0]
    rw [hop] at hG2
    have HE := hide hG2
    clear hG2 hop
    go_wp2_with (first
          | (go_at_call_of 56 (Value.string { data := #[97, 110, 100] }); refine (HF.out _ [97, 110, 100] hcur).mono ?_; (first | rw [t0] | rw [f0]); rintro e9 w9 ⟨rfl, hb9⟩; have hcur := bel2 hb9 hcur))
    go_ret
    have hE := HE.out
    try simp only at hE
    rw [← hE]
    exact ⟨gr_bel HG.out hcur, ⟨B, n, rfl, own_below HO.out hcur⟩, HSx.out.below hcur⟩
set_option maxRecDepth 100000 in
set_option maxHeartbeats 2000000 in
theorem r_concat (F P : Nat) (A : Option Addr) (ts : List Tok) (c : Nat) (hv : valT ts = true) (hlen : ts.length ≤ 1000000) (IH : LvR 170 F 5 P A ts c) : LvR 155 (F + 1) 4 P A ts c := by
  intro W i d hS hi hd _ hF
  have hne := prs_ne hv (F + 1) 4 i d hi (by omega) (fun e => absurd e (by omega)) hF
  rw [prs_chn (by decide)] at hne ⊢
  have hP := hS.lt
  have HI := hide (show ∀ (X : World) (j : Nat), PSt RT X P A ts c j d 0 → W.grownBy X (some P) → j < ts.length → i ≤ j → Calls Tryz.prog 170 #[.pointer (some ⟨P, 0, none⟩)] X (fun e2 w2 => ∃ (B2 : Option Addr) (n2 : Nat) (fs : List Nd) (k d2 : Nat) (x2 : Int), e2 = .returned (.slice B2 fs.length n2) ∧ w2.ownsRow W.heap.size 53 6 (.slice B2 fs.length n2) fs.length (ndCells fs) ∧ PSt RT w2 P A ts c k d2 x2 ∧ W.grownBy w2 (some P) ∧ X.grownBy w2 (some P) ∧ j ≤ k ∧ k < ts.length ∧ fs.length ≤ k - j ∧
      ((x2 = 0 ∧ d2 = d ∧ j < k ∧ prs ts F 5 j d = .ok fs k) ∨ (x2 ≠ 0 ∧ prs ts F 5 j d = .err x2 k ∧ d ≤ d2 ∧ d2 ≤ k))) from fun X j hx hg hj hij =>
    (IH X j d hx hj (by omega) (fun e => absurd e (by omega)) (by omega)).mono fun e2 w2 h => by
      obtain ⟨B2, n2, fs, k, d2, x2, h1, h2, h3, h4, h5, h6, h7, h8⟩ := ppost_open (prs_fact hv F 5 j d hj (fun e => absurd e (by omega))) h
      exact ⟨B2, n2, fs, k, d2, x2, h1, own_low h2 hg.size, h3, hg.trans h4, h4, h5, h6, h7, h8⟩)
  have HS := hide hS
  clear hS IH
  generalize hq : (fun j => prs ts F 5 j d) = q at *
  have HQ := hide (fun j => congrFun hq j)
  have hqi : prs ts F 5 i d = q i := congrFun hq i
  rw [hqi] at hne ⊢
  clear hq hqi
  generalize hRR : (q i).bind (chainG q (opOf 4) ts ts.length) = R at *
  have HR := hide hRR
  clear hRR
  go_enter Tryz.func155, Tryz.ntmps155
  go_wp2_with fail
  refine (HI.out W i HS.out (World.grownBy.refl _ _) hi (Nat.le_refl _)).mono ?_
  rw [HQ.out i]
  rintro e2 w1 ⟨B, n, es, j, d', x, rfl, ho, hs, hg, _, hij, hjl, hel, hD⟩
  have HD0 := hide (show (x = 0 ∧ d' = d ∧ i < j ∧ ∃ G, chainG q (opOf 4) ts G es j = R) ∨ (x ≠ 0 ∧ R = .err x j ∧ d ≤ d' ∧ d' ≤ j) from by
    have hr := HR.out
    rcases hD with ⟨h1, h2, h3, h4⟩ | ⟨h1, h2, h3⟩
    · rw [h4] at hr; exact .inl ⟨h1, h2, h3, _, hr⟩
    · rw [h2] at hr; exact .inr ⟨h1, hr.symm, h3⟩)
  have HO := hide ho
  have HSx := hide hs
  have HG := hide hg
  clear ho hs hg hD HR HS
  go_wp2
  go_loopw [3] (fun s wr => ∃ (B : Option Addr) (n : Nat) (es : List Nd) (j d' : Nat) (x : Int), s = .slice B es.length n ∧ Hid (wr.ownsRow W.heap.size 53 6 (.slice B es.length n) es.length (ndCells es)) ∧ Hid (PSt RT wr P A ts c j d' x) ∧ Hid (W.grownBy wr (some P)) ∧ i ≤ j ∧ j < ts.length ∧ es.length ≤ j - i ∧ Hid ((x = 0 ∧ d' = d ∧ i < j ∧ ∃ G, chainG q (opOf 4) ts G es j = R) ∨ (x ≠ 0 ∧ R = .err x j ∧ d ≤ d' ∧ d' ≤ j))) (fun _ wr => msr P ts wr)
  case atStart => exact ⟨B, n, es, j, d', x, rfl, HO, HSx, HG, hij, hjl, hel, HD0⟩
  case round =>
    clear HO HSx HG hij hjl hel HD0
    obtain ⟨B, n, es, j, d', x, rfl, HO, HSx, HG, hij, hjl, hel, HD⟩ := hrel
    have hPr := HSx.out.lt
    have hWw := HG.out.size
    have hcur := Below.refl wr.heap.size wr
    by_cases hx : x = 0
    rotate_left
    · rcases HD.out with ⟨h, _⟩ | ⟨_, hE, hdE⟩
      · exact absurd h hx
      have HE := hide hE
      have HF := hide (show ∀ (X : World) (y : Bytes), Below wr.heap.size wr X → Calls Tryz.prog 156 #[.pointer (some ⟨P, 0, none⟩), str y] X (fun e' w' => e' = .returned (.bool false) ∧ Below X.heap.size X w') from fun X y hb => by
        have h := r_is X P A ts c j d' x (HSx.out.below hb) hjl hlen y
        rw [beq_eq_false_iff_ne.2 hx] at h
        exact h)
      clear hE
      go_wp2_with (go_at_call 156; refine (HF.out _ _ hcur).mono ?_; rintro e9 w9 ⟨rfl, hb9⟩; have hcur := bel2 hb9 hcur)
      go_ret
      rw [HE.out]
      exact ⟨gr_bel HG.out hcur, es, d', ⟨B, n, rfl, own_below HO.out hcur⟩, hij, hel, hdE, HSx.out.below hcur⟩
    rcases HD.out with ⟨_, hdd, hij2, G, hG⟩ | ⟨h, _⟩
    rotate_left
    · exact absurd hx h
    subst hx hdd
    have hG2 : (match opOf 4 (tk ts j) with
      | none => PR.ok es j
      | some o => (q (j + 1)).bind fun fs k => chainG q (opOf 4) ts (G - 1) (es ++ fs ++ [opNd o]) k) = R := by
      cases G with
      | zero => exact absurd hG.symm hne
      | succ G => exact hG
    clear hG HD
    have HF := hide (show ∀ (X : World) (y : Bytes), Below wr.heap.size wr X → Calls Tryz.prog 156 #[.pointer (some ⟨P, 0, none⟩), str y] X (fun e' w' => e' = .returned (.bool (isSym (tk ts j) y)) ∧ Below X.heap.size X w') from fun X y hb => r_is X P A ts c j d' 0 (HSx.out.below hb) hjl hlen y)
    by_cases t0 : isSym (tk ts j) [43, 43] = true
    · have hop : opOf 4 (tk ts j) = some 9 := by unfold opOf; simp [t0]
      rw [hop] at hG2
      have HE := hide hG2
      have hj1 := sym_next hv hjl t0
      clear hG2 hop
      have HPX := hide (show ∀ X : World, Below wr.heap.size wr X → PSt RT (X.setCell ⟨P, 1, none⟩ (.int .i64 ((j + 1 : Nat) : Int))) P A ts c (j + 1) d' 0 ∧ W.grownBy (X.setCell ⟨P, 1, none⟩ (.int .i64 ((j + 1 : Nat) : Int))) (some P) ∧ (X.setCell ⟨P, 1, none⟩ (.int .i64 ((j + 1 : Nat) : Int))).ownsRow W.heap.size 53 6 (.slice B es.length n) es.length (ndCells es) from fun X hb => ⟨(HSx.out.below hb).setAt (j + 1), gr_set (gr_bel HG.out hb) 1 _, own_fr (own_below HO.out hb) (gr_set (World.grownBy.refl X (some P)) 1 (.int .i64 ((j + 1 : Nat) : Int))) hP⟩)
      go_wp2_with (first
          | (go_at_call_of 156 (Value.string { data := #[43, 43] }); refine (HF.out _ [43, 43] hcur).mono ?_; (first | rw [t0] | rw [f0]); rintro e9 w9 ⟨rfl, hb9⟩; have hcur := bel2 hb9 hcur; have hS9 := HSx.out.below hcur; obtain ⟨c0, c1, c2, c3⟩ := hS9.cells; have hP9 := hS9.lt; have hfr := hS9.free; clear hS9))
      refine (HI.out _ (j + 1) (HPX.out w9 hcur).1 (HPX.out w9 hcur).2.1 hj1 (by omega)).mono ?_
      rw [HQ.out (j + 1)]
      rintro e2 w2 ⟨B2, n2, fs, k, d2, x2, rfl, ho2, hs2, hg2, hgx, hjk, hkl, hfl, hD2⟩
      have HO2 := hide (own_fr (HPX.out w9 hcur).2.2 hgx hP)
      have HJ := hide (fun (o : Int) => r_join w2 B B2 es fs n n2 W.heap.size W.heap.size o HO2.out ho2 (by omega) (by omega))
      have HS2 := hide hs2
      have HG2 := hide hg2
      have HD2 := hide hD2
      have hz2 := hg2.size
      clear ho2 hs2 hg2 hgx hD2 c0 c1 c2 c3 hfr HF HPX HI
      go_wp2_with fail
      refine (HJ.out 9).mono ?_
      rintro e3 w3 ⟨⟨B3, n3, rfl, ho3⟩, hb3⟩
      have HO3 := hide (own_low ho3 hz2)
      have HS3 := hide (HS2.out.below hb3)
      have HG3 := hide (gr_bel HG2.out hb3)
      clear ho3 HJ
      go_wp2
      refine ⟨⟨B3, n3, es ++ fs ++ [opNd 9], k, d2, x2, by first | rfl | (simp; done), HO3, HS3, HG3, by omega, hkl, by simp only [List.length_append, List.length_singleton]; omega, hide ?_⟩, ?_⟩
      · rcases HD2.out with ⟨e1, e2, e3, e4⟩ | ⟨e1, e4, e5⟩
        · refine .inl ⟨e1, e2, by omega, G - 1, ?_⟩
          have hE := HE.out
          try simp only at hE
          rw [e4] at hE
          exact hE
        · refine .inr ⟨e1, ?_, e5⟩
          have hE := HE.out
          try simp only at hE
          rw [e4] at hE
          exact hE.symm
      · rw [msr_eq HS3.out, msr_eq HSx.out]
        split <;> simp <;> omega
    have f0 : isSym (tk ts j) [43, 43] = false := by simpa using t0
    clear t0
    have hop : opOf 4 (tk ts j) = none := by unfold opOf; simp [f0]
    rw [hop] at hG2
    have HE := hide hG2
    clear hG2 hop
    go_wp2_with (first
          | (go_at_call_of 156 (Value.string { data := #[43, 43] }); refine (HF.out _ [43, 43] hcur).mono ?_; (first | rw [t0] | rw [f0]); rintro e9 w9 ⟨rfl, hb9⟩; have hcur := bel2 hb9 hcur))
    go_ret
    have hE := HE.out
    try simp only at hE
    rw [← hE]
    exact ⟨gr_bel HG.out hcur, ⟨B, n, rfl, own_below HO.out hcur⟩, HSx.out.below hcur⟩
set_option maxRecDepth 100000 in
set_option maxHeartbeats 2000000 in
theorem r_sum (F P : Nat) (A : Option Addr) (ts : List Tok) (c : Nat) (hv : valT ts = true) (hlen : ts.length ≤ 1000000) (IH : LvR 183 F 6 P A ts c) : LvR 170 (F + 1) 5 P A ts c := by
  intro W i d hS hi hd _ hF
  have hne := prs_ne hv (F + 1) 5 i d hi (by omega) (fun e => absurd e (by omega)) hF
  rw [prs_chn (by decide)] at hne ⊢
  have hP := hS.lt
  have HI := hide (show ∀ (X : World) (j : Nat), PSt RT X P A ts c j d 0 → W.grownBy X (some P) → j < ts.length → i ≤ j → Calls Tryz.prog 183 #[.pointer (some ⟨P, 0, none⟩)] X (fun e2 w2 => ∃ (B2 : Option Addr) (n2 : Nat) (fs : List Nd) (k d2 : Nat) (x2 : Int), e2 = .returned (.slice B2 fs.length n2) ∧ w2.ownsRow W.heap.size 53 6 (.slice B2 fs.length n2) fs.length (ndCells fs) ∧ PSt RT w2 P A ts c k d2 x2 ∧ W.grownBy w2 (some P) ∧ X.grownBy w2 (some P) ∧ j ≤ k ∧ k < ts.length ∧ fs.length ≤ k - j ∧
      ((x2 = 0 ∧ d2 = d ∧ j < k ∧ prs ts F 6 j d = .ok fs k) ∨ (x2 ≠ 0 ∧ prs ts F 6 j d = .err x2 k ∧ d ≤ d2 ∧ d2 ≤ k))) from fun X j hx hg hj hij =>
    (IH X j d hx hj (by omega) (fun e => absurd e (by omega)) (by omega)).mono fun e2 w2 h => by
      obtain ⟨B2, n2, fs, k, d2, x2, h1, h2, h3, h4, h5, h6, h7, h8⟩ := ppost_open (prs_fact hv F 6 j d hj (fun e => absurd e (by omega))) h
      exact ⟨B2, n2, fs, k, d2, x2, h1, own_low h2 hg.size, h3, hg.trans h4, h4, h5, h6, h7, h8⟩)
  have HS := hide hS
  clear hS IH
  generalize hq : (fun j => prs ts F 6 j d) = q at *
  have HQ := hide (fun j => congrFun hq j)
  have hqi : prs ts F 6 i d = q i := congrFun hq i
  rw [hqi] at hne ⊢
  clear hq hqi
  generalize hRR : (q i).bind (chainG q (opOf 5) ts ts.length) = R at *
  have HR := hide hRR
  clear hRR
  go_enter Tryz.func170, Tryz.ntmps170
  go_wp2_with fail
  refine (HI.out W i HS.out (World.grownBy.refl _ _) hi (Nat.le_refl _)).mono ?_
  rw [HQ.out i]
  rintro e2 w1 ⟨B, n, es, j, d', x, rfl, ho, hs, hg, _, hij, hjl, hel, hD⟩
  have HD0 := hide (show (x = 0 ∧ d' = d ∧ i < j ∧ ∃ G, chainG q (opOf 5) ts G es j = R) ∨ (x ≠ 0 ∧ R = .err x j ∧ d ≤ d' ∧ d' ≤ j) from by
    have hr := HR.out
    rcases hD with ⟨h1, h2, h3, h4⟩ | ⟨h1, h2, h3⟩
    · rw [h4] at hr; exact .inl ⟨h1, h2, h3, _, hr⟩
    · rw [h2] at hr; exact .inr ⟨h1, hr.symm, h3⟩)
  have HO := hide ho
  have HSx := hide hs
  have HG := hide hg
  clear ho hs hg hD HR HS
  go_wp2
  go_loopw [3] (fun s wr => ∃ (B : Option Addr) (n : Nat) (es : List Nd) (j d' : Nat) (x : Int), s = .slice B es.length n ∧ Hid (wr.ownsRow W.heap.size 53 6 (.slice B es.length n) es.length (ndCells es)) ∧ Hid (PSt RT wr P A ts c j d' x) ∧ Hid (W.grownBy wr (some P)) ∧ i ≤ j ∧ j < ts.length ∧ es.length ≤ j - i ∧ Hid ((x = 0 ∧ d' = d ∧ i < j ∧ ∃ G, chainG q (opOf 5) ts G es j = R) ∨ (x ≠ 0 ∧ R = .err x j ∧ d ≤ d' ∧ d' ≤ j))) (fun _ wr => msr P ts wr)
  case atStart => exact ⟨B, n, es, j, d', x, rfl, HO, HSx, HG, hij, hjl, hel, HD0⟩
  case round =>
    clear HO HSx HG hij hjl hel HD0
    obtain ⟨B, n, es, j, d', x, rfl, HO, HSx, HG, hij, hjl, hel, HD⟩ := hrel
    have hPr := HSx.out.lt
    have hWw := HG.out.size
    have hcur := Below.refl wr.heap.size wr
    by_cases hx : x = 0
    rotate_left
    · rcases HD.out with ⟨h, _⟩ | ⟨_, hE, hdE⟩
      · exact absurd h hx
      have HE := hide hE
      have HF := hide (show ∀ (X : World) (y : Bytes), Below wr.heap.size wr X → Calls Tryz.prog 156 #[.pointer (some ⟨P, 0, none⟩), str y] X (fun e' w' => e' = .returned (.bool false) ∧ Below X.heap.size X w') from fun X y hb => by
        have h := r_is X P A ts c j d' x (HSx.out.below hb) hjl hlen y
        rw [beq_eq_false_iff_ne.2 hx] at h
        exact h)
      clear hE
      go_wp2_with (go_at_call 156; refine (HF.out _ _ hcur).mono ?_; rintro e9 w9 ⟨rfl, hb9⟩; have hcur := bel2 hb9 hcur)
      go_ret
      rw [HE.out]
      exact ⟨gr_bel HG.out hcur, es, d', ⟨B, n, rfl, own_below HO.out hcur⟩, hij, hel, hdE, HSx.out.below hcur⟩
    rcases HD.out with ⟨_, hdd, hij2, G, hG⟩ | ⟨h, _⟩
    rotate_left
    · exact absurd hx h
    subst hx hdd
    have hG2 : (match opOf 5 (tk ts j) with
      | none => PR.ok es j
      | some o => (q (j + 1)).bind fun fs k => chainG q (opOf 5) ts (G - 1) (es ++ fs ++ [opNd o]) k) = R := by
      cases G with
      | zero => exact absurd hG.symm hne
      | succ G => exact hG
    clear hG HD
    have HF := hide (show ∀ (X : World) (y : Bytes), Below wr.heap.size wr X → Calls Tryz.prog 156 #[.pointer (some ⟨P, 0, none⟩), str y] X (fun e' w' => e' = .returned (.bool (isSym (tk ts j) y)) ∧ Below X.heap.size X w') from fun X y hb => r_is X P A ts c j d' 0 (HSx.out.below hb) hjl hlen y)
    by_cases t0 : isSym (tk ts j) [43] = true
    · have hop : opOf 5 (tk ts j) = some 4 := by unfold opOf; simp [t0]
      have f1 : isSym (tk ts j) [45] = false := by
        have ht := isSym_text t0
        unfold isSym
        rw [ht]
        simp
      rw [hop] at hG2
      have HE := hide hG2
      have hj1 := sym_next hv hjl t0
      clear hG2 hop
      have HPX := hide (show ∀ X : World, Below wr.heap.size wr X → PSt RT (X.setCell ⟨P, 1, none⟩ (.int .i64 ((j + 1 : Nat) : Int))) P A ts c (j + 1) d' 0 ∧ W.grownBy (X.setCell ⟨P, 1, none⟩ (.int .i64 ((j + 1 : Nat) : Int))) (some P) ∧ (X.setCell ⟨P, 1, none⟩ (.int .i64 ((j + 1 : Nat) : Int))).ownsRow W.heap.size 53 6 (.slice B es.length n) es.length (ndCells es) from fun X hb => ⟨(HSx.out.below hb).setAt (j + 1), gr_set (gr_bel HG.out hb) 1 _, own_fr (own_below HO.out hb) (gr_set (World.grownBy.refl X (some P)) 1 (.int .i64 ((j + 1 : Nat) : Int))) hP⟩)
      go_wp2_with (first
          | (go_at_call_of 156 (Value.string { data := #[43] }); refine (HF.out _ [43] hcur).mono ?_; (first | rw [t0] | rw [f0]); rintro e9 w9 ⟨rfl, hb9⟩; have hcur := bel2 hb9 hcur; have hS9 := HSx.out.below hcur; obtain ⟨c0, c1, c2, c3⟩ := hS9.cells; have hP9 := hS9.lt; have hfr := hS9.free; clear hS9)
          | (go_at_call_of 156 (Value.string { data := #[45] }); refine (HF.out _ [45] hcur).mono ?_; (first | rw [t1] | rw [f1]); rintro e9 w9 ⟨rfl, hb9⟩; have hcur := bel2 hb9 hcur; have hS9 := HSx.out.below hcur; obtain ⟨c0, c1, c2, c3⟩ := hS9.cells; have hP9 := hS9.lt; have hfr := hS9.free; clear hS9))
      refine (HI.out _ (j + 1) (HPX.out w9 hcur).1 (HPX.out w9 hcur).2.1 hj1 (by omega)).mono ?_
      rw [HQ.out (j + 1)]
      rintro e2 w2 ⟨B2, n2, fs, k, d2, x2, rfl, ho2, hs2, hg2, hgx, hjk, hkl, hfl, hD2⟩
      have HO2 := hide (own_fr (HPX.out w9 hcur).2.2 hgx hP)
      have HJ := hide (fun (o : Int) => r_join w2 B B2 es fs n n2 W.heap.size W.heap.size o HO2.out ho2 (by omega) (by omega))
      have HS2 := hide hs2
      have HG2 := hide hg2
      have HD2 := hide hD2
      have hz2 := hg2.size
      clear ho2 hs2 hg2 hgx hD2 c0 c1 c2 c3 hfr HF HPX HI
      go_wp2_with fail
      refine (HJ.out 4).mono ?_
      rintro e3 w3 ⟨⟨B3, n3, rfl, ho3⟩, hb3⟩
      have HO3 := hide (own_low ho3 hz2)
      have HS3 := hide (HS2.out.below hb3)
      have HG3 := hide (gr_bel HG2.out hb3)
      clear ho3 HJ
      go_wp2
      refine ⟨⟨B3, n3, es ++ fs ++ [opNd 4], k, d2, x2, by first | rfl | (simp; done), HO3, HS3, HG3, by omega, hkl, by simp only [List.length_append, List.length_singleton]; omega, hide ?_⟩, ?_⟩
      · rcases HD2.out with ⟨e1, e2, e3, e4⟩ | ⟨e1, e4, e5⟩
        · refine .inl ⟨e1, e2, by omega, G - 1, ?_⟩
          have hE := HE.out
          try simp only at hE
          rw [e4] at hE
          exact hE
        · refine .inr ⟨e1, ?_, e5⟩
          have hE := HE.out
          try simp only at hE
          rw [e4] at hE
          exact hE.symm
      · rw [msr_eq HS3.out, msr_eq HSx.out]
        split <;> simp <;> omega
    have f0 : isSym (tk ts j) [43] = false := by simpa using t0
    clear t0
    by_cases t1 : isSym (tk ts j) [45] = true
    · have hop : opOf 5 (tk ts j) = some 5 := by unfold opOf; simp [t1, f0]
      rw [hop] at hG2
      have HE := hide hG2
      have hj1 := sym_next hv hjl t1
      clear hG2 hop
      have HPX := hide (show ∀ X : World, Below wr.heap.size wr X → PSt RT (X.setCell ⟨P, 1, none⟩ (.int .i64 ((j + 1 : Nat) : Int))) P A ts c (j + 1) d' 0 ∧ W.grownBy (X.setCell ⟨P, 1, none⟩ (.int .i64 ((j + 1 : Nat) : Int))) (some P) ∧ (X.setCell ⟨P, 1, none⟩ (.int .i64 ((j + 1 : Nat) : Int))).ownsRow W.heap.size 53 6 (.slice B es.length n) es.length (ndCells es) from fun X hb => ⟨(HSx.out.below hb).setAt (j + 1), gr_set (gr_bel HG.out hb) 1 _, own_fr (own_below HO.out hb) (gr_set (World.grownBy.refl X (some P)) 1 (.int .i64 ((j + 1 : Nat) : Int))) hP⟩)
      go_wp2_with (first
          | (go_at_call_of 156 (Value.string { data := #[43] }); refine (HF.out _ [43] hcur).mono ?_; (first | rw [t0] | rw [f0]); rintro e9 w9 ⟨rfl, hb9⟩; have hcur := bel2 hb9 hcur; have hS9 := HSx.out.below hcur; obtain ⟨c0, c1, c2, c3⟩ := hS9.cells; have hP9 := hS9.lt; have hfr := hS9.free; clear hS9)
          | (go_at_call_of 156 (Value.string { data := #[45] }); refine (HF.out _ [45] hcur).mono ?_; (first | rw [t1] | rw [f1]); rintro e9 w9 ⟨rfl, hb9⟩; have hcur := bel2 hb9 hcur; have hS9 := HSx.out.below hcur; obtain ⟨c0, c1, c2, c3⟩ := hS9.cells; have hP9 := hS9.lt; have hfr := hS9.free; clear hS9))
      refine (HI.out _ (j + 1) (HPX.out w9 hcur).1 (HPX.out w9 hcur).2.1 hj1 (by omega)).mono ?_
      rw [HQ.out (j + 1)]
      rintro e2 w2 ⟨B2, n2, fs, k, d2, x2, rfl, ho2, hs2, hg2, hgx, hjk, hkl, hfl, hD2⟩
      have HO2 := hide (own_fr (HPX.out w9 hcur).2.2 hgx hP)
      have HJ := hide (fun (o : Int) => r_join w2 B B2 es fs n n2 W.heap.size W.heap.size o HO2.out ho2 (by omega) (by omega))
      have HS2 := hide hs2
      have HG2 := hide hg2
      have HD2 := hide hD2
      have hz2 := hg2.size
      clear ho2 hs2 hg2 hgx hD2 c0 c1 c2 c3 hfr HF HPX HI
      go_wp2_with fail
      refine (HJ.out 5).mono ?_
      rintro e3 w3 ⟨⟨B3, n3, rfl, ho3⟩, hb3⟩
      have HO3 := hide (own_low ho3 hz2)
      have HS3 := hide (HS2.out.below hb3)
      have HG3 := hide (gr_bel HG2.out hb3)
      clear ho3 HJ
      go_wp2
      refine ⟨⟨B3, n3, es ++ fs ++ [opNd 5], k, d2, x2, by first | rfl | (simp; done), HO3, HS3, HG3, by omega, hkl, by simp only [List.length_append, List.length_singleton]; omega, hide ?_⟩, ?_⟩
      · rcases HD2.out with ⟨e1, e2, e3, e4⟩ | ⟨e1, e4, e5⟩
        · refine .inl ⟨e1, e2, by omega, G - 1, ?_⟩
          have hE := HE.out
          try simp only at hE
          rw [e4] at hE
          exact hE
        · refine .inr ⟨e1, ?_, e5⟩
          have hE := HE.out
          try simp only at hE
          rw [e4] at hE
          exact hE.symm
      · rw [msr_eq HS3.out, msr_eq HSx.out]
        split <;> simp <;> omega
    have f1 : isSym (tk ts j) [45] = false := by simpa using t1
    clear t1
    have hop : opOf 5 (tk ts j) = none := by unfold opOf; simp [f0, f1]
    rw [hop] at hG2
    have HE := hide hG2
    clear hG2 hop
    go_wp2_with (first
          | (go_at_call_of 156 (Value.string { data := #[43] }); refine (HF.out _ [43] hcur).mono ?_; (first | rw [t0] | rw [f0]); rintro e9 w9 ⟨rfl, hb9⟩; have hcur := bel2 hb9 hcur)
          | (go_at_call_of 156 (Value.string { data := #[45] }); refine (HF.out _ [45] hcur).mono ?_; (first | rw [t1] | rw [f1]); rintro e9 w9 ⟨rfl, hb9⟩; have hcur := bel2 hb9 hcur))
    go_ret
    have hE := HE.out
    try simp only at hE
    rw [← hE]
    exact ⟨gr_bel HG.out hcur, ⟨B, n, rfl, own_below HO.out hcur⟩, HSx.out.below hcur⟩
set_option maxRecDepth 100000 in
set_option maxHeartbeats 2000000 in
theorem r_product (F P : Nat) (A : Option Addr) (ts : List Tok) (c : Nat) (hv : valT ts = true) (hlen : ts.length ≤ 1000000) (IH : LvR 190 F 7 P A ts c) : LvR 183 (F + 1) 6 P A ts c := by
  intro W i d hS hi hd _ hF
  have hne := prs_ne hv (F + 1) 6 i d hi (by omega) (fun e => absurd e (by omega)) hF
  rw [prs_chn (by decide)] at hne ⊢
  have hP := hS.lt
  have HI := hide (show ∀ (X : World) (j : Nat), PSt RT X P A ts c j d 0 → W.grownBy X (some P) → j < ts.length → i ≤ j → Calls Tryz.prog 190 #[.pointer (some ⟨P, 0, none⟩)] X (fun e2 w2 => ∃ (B2 : Option Addr) (n2 : Nat) (fs : List Nd) (k d2 : Nat) (x2 : Int), e2 = .returned (.slice B2 fs.length n2) ∧ w2.ownsRow W.heap.size 53 6 (.slice B2 fs.length n2) fs.length (ndCells fs) ∧ PSt RT w2 P A ts c k d2 x2 ∧ W.grownBy w2 (some P) ∧ X.grownBy w2 (some P) ∧ j ≤ k ∧ k < ts.length ∧ fs.length ≤ k - j ∧
      ((x2 = 0 ∧ d2 = d ∧ j < k ∧ prs ts F 7 j d = .ok fs k) ∨ (x2 ≠ 0 ∧ prs ts F 7 j d = .err x2 k ∧ d ≤ d2 ∧ d2 ≤ k))) from fun X j hx hg hj hij =>
    (IH X j d hx hj (by omega) (fun e => absurd e (by omega)) (by omega)).mono fun e2 w2 h => by
      obtain ⟨B2, n2, fs, k, d2, x2, h1, h2, h3, h4, h5, h6, h7, h8⟩ := ppost_open (prs_fact hv F 7 j d hj (fun e => absurd e (by omega))) h
      exact ⟨B2, n2, fs, k, d2, x2, h1, own_low h2 hg.size, h3, hg.trans h4, h4, h5, h6, h7, h8⟩)
  have HS := hide hS
  clear hS IH
  generalize hq : (fun j => prs ts F 7 j d) = q at *
  have HQ := hide (fun j => congrFun hq j)
  have hqi : prs ts F 7 i d = q i := congrFun hq i
  rw [hqi] at hne ⊢
  clear hq hqi
  generalize hRR : (q i).bind (chainG q (opOf 6) ts ts.length) = R at *
  have HR := hide hRR
  clear hRR
  go_enter Tryz.func183, Tryz.ntmps183
  go_wp2_with fail
  refine (HI.out W i HS.out (World.grownBy.refl _ _) hi (Nat.le_refl _)).mono ?_
  rw [HQ.out i]
  rintro e2 w1 ⟨B, n, es, j, d', x, rfl, ho, hs, hg, _, hij, hjl, hel, hD⟩
  have HD0 := hide (show (x = 0 ∧ d' = d ∧ i < j ∧ ∃ G, chainG q (opOf 6) ts G es j = R) ∨ (x ≠ 0 ∧ R = .err x j ∧ d ≤ d' ∧ d' ≤ j) from by
    have hr := HR.out
    rcases hD with ⟨h1, h2, h3, h4⟩ | ⟨h1, h2, h3⟩
    · rw [h4] at hr; exact .inl ⟨h1, h2, h3, _, hr⟩
    · rw [h2] at hr; exact .inr ⟨h1, hr.symm, h3⟩)
  have HO := hide ho
  have HSx := hide hs
  have HG := hide hg
  clear ho hs hg hD HR HS
  go_wp2
  go_loopw [3] (fun s wr => ∃ (B : Option Addr) (n : Nat) (es : List Nd) (j d' : Nat) (x : Int), s = .slice B es.length n ∧ Hid (wr.ownsRow W.heap.size 53 6 (.slice B es.length n) es.length (ndCells es)) ∧ Hid (PSt RT wr P A ts c j d' x) ∧ Hid (W.grownBy wr (some P)) ∧ i ≤ j ∧ j < ts.length ∧ es.length ≤ j - i ∧ Hid ((x = 0 ∧ d' = d ∧ i < j ∧ ∃ G, chainG q (opOf 6) ts G es j = R) ∨ (x ≠ 0 ∧ R = .err x j ∧ d ≤ d' ∧ d' ≤ j))) (fun _ wr => msr P ts wr)
  case atStart => exact ⟨B, n, es, j, d', x, rfl, HO, HSx, HG, hij, hjl, hel, HD0⟩
  case round =>
    clear HO HSx HG hij hjl hel HD0
    obtain ⟨B, n, es, j, d', x, rfl, HO, HSx, HG, hij, hjl, hel, HD⟩ := hrel
    have hPr := HSx.out.lt
    have hWw := HG.out.size
    have hcur := Below.refl wr.heap.size wr
    by_cases hx : x = 0
    rotate_left
    · rcases HD.out with ⟨h, _⟩ | ⟨_, hE, hdE⟩
      · exact absurd h hx
      have HE := hide hE
      have HF := hide (show ∀ (X : World) (y : Bytes), Below wr.heap.size wr X → Calls Tryz.prog 156 #[.pointer (some ⟨P, 0, none⟩), str y] X (fun e' w' => e' = .returned (.bool false) ∧ Below X.heap.size X w') from fun X y hb => by
        have h := r_is X P A ts c j d' x (HSx.out.below hb) hjl hlen y
        rw [beq_eq_false_iff_ne.2 hx] at h
        exact h)
      clear hE
      go_wp2_with (go_at_call 156; refine (HF.out _ _ hcur).mono ?_; rintro e9 w9 ⟨rfl, hb9⟩; have hcur := bel2 hb9 hcur)
      go_ret
      rw [HE.out]
      exact ⟨gr_bel HG.out hcur, es, d', ⟨B, n, rfl, own_below HO.out hcur⟩, hij, hel, hdE, HSx.out.below hcur⟩
    rcases HD.out with ⟨_, hdd, hij2, G, hG⟩ | ⟨h, _⟩
    rotate_left
    · exact absurd hx h
    subst hx hdd
    have hG2 : (match opOf 6 (tk ts j) with
      | none => PR.ok es j
      | some o => (q (j + 1)).bind fun fs k => chainG q (opOf 6) ts (G - 1) (es ++ fs ++ [opNd o]) k) = R := by
      cases G with
      | zero => exact absurd hG.symm hne
      | succ G => exact hG
    clear hG HD
    have HF := hide (show ∀ (X : World) (y : Bytes), Below wr.heap.size wr X → Calls Tryz.prog 156 #[.pointer (some ⟨P, 0, none⟩), str y] X (fun e' w' => e' = .returned (.bool (isSym (tk ts j) y)) ∧ Below X.heap.size X w') from fun X y hb => r_is X P A ts c j d' 0 (HSx.out.below hb) hjl hlen y)
    by_cases t0 : isSym (tk ts j) [42] = true
    · have hop : opOf 6 (tk ts j) = some 6 := by unfold opOf; simp [t0]
      have f1 : isSym (tk ts j) [47] = false := by
        have ht := isSym_text t0
        unfold isSym
        rw [ht]
        simp
      have f2 : isSym (tk ts j) [37] = false := by
        have ht := isSym_text t0
        unfold isSym
        rw [ht]
        simp
      rw [hop] at hG2
      have HE := hide hG2
      have hj1 := sym_next hv hjl t0
      clear hG2 hop
      have HPX := hide (show ∀ X : World, Below wr.heap.size wr X → PSt RT (X.setCell ⟨P, 1, none⟩ (.int .i64 ((j + 1 : Nat) : Int))) P A ts c (j + 1) d' 0 ∧ W.grownBy (X.setCell ⟨P, 1, none⟩ (.int .i64 ((j + 1 : Nat) : Int))) (some P) ∧ (X.setCell ⟨P, 1, none⟩ (.int .i64 ((j + 1 : Nat) : Int))).ownsRow W.heap.size 53 6 (.slice B es.length n) es.length (ndCells es) from fun X hb => ⟨(HSx.out.below hb).setAt (j + 1), gr_set (gr_bel HG.out hb) 1 _, own_fr (own_below HO.out hb) (gr_set (World.grownBy.refl X (some P)) 1 (.int .i64 ((j + 1 : Nat) : Int))) hP⟩)
      go_wp2_with (first
          | (go_at_call_of 156 (Value.string { data := #[42] }); refine (HF.out _ [42] hcur).mono ?_; (first | rw [t0] | rw [f0]); rintro e9 w9 ⟨rfl, hb9⟩; have hcur := bel2 hb9 hcur; have hS9 := HSx.out.below hcur; obtain ⟨c0, c1, c2, c3⟩ := hS9.cells; have hP9 := hS9.lt; have hfr := hS9.free; clear hS9)
          | (go_at_call_of 156 (Value.string { data := #[47] }); refine (HF.out _ [47] hcur).mono ?_; (first | rw [t1] | rw [f1]); rintro e9 w9 ⟨rfl, hb9⟩; have hcur := bel2 hb9 hcur; have hS9 := HSx.out.below hcur; obtain ⟨c0, c1, c2, c3⟩ := hS9.cells; have hP9 := hS9.lt; have hfr := hS9.free; clear hS9)
          | (go_at_call_of 156 (Value.string { data := #[37] }); refine (HF.out _ [37] hcur).mono ?_; (first | rw [t2] | rw [f2]); rintro e9 w9 ⟨rfl, hb9⟩; have hcur := bel2 hb9 hcur; have hS9 := HSx.out.below hcur; obtain ⟨c0, c1, c2, c3⟩ := hS9.cells; have hP9 := hS9.lt; have hfr := hS9.free; clear hS9))
      refine (HI.out _ (j + 1) (HPX.out w9 hcur).1 (HPX.out w9 hcur).2.1 hj1 (by omega)).mono ?_
      rw [HQ.out (j + 1)]
      rintro e2 w2 ⟨B2, n2, fs, k, d2, x2, rfl, ho2, hs2, hg2, hgx, hjk, hkl, hfl, hD2⟩
      have HO2 := hide (own_fr (HPX.out w9 hcur).2.2 hgx hP)
      have HJ := hide (fun (o : Int) => r_join w2 B B2 es fs n n2 W.heap.size W.heap.size o HO2.out ho2 (by omega) (by omega))
      have HS2 := hide hs2
      have HG2 := hide hg2
      have HD2 := hide hD2
      have hz2 := hg2.size
      clear ho2 hs2 hg2 hgx hD2 c0 c1 c2 c3 hfr HF HPX HI
      go_wp2_with fail
      refine (HJ.out 6).mono ?_
      rintro e3 w3 ⟨⟨B3, n3, rfl, ho3⟩, hb3⟩
      have HO3 := hide (own_low ho3 hz2)
      have HS3 := hide (HS2.out.below hb3)
      have HG3 := hide (gr_bel HG2.out hb3)
      clear ho3 HJ
      go_wp2
      refine ⟨⟨B3, n3, es ++ fs ++ [opNd 6], k, d2, x2, by first | rfl | (simp; done), HO3, HS3, HG3, by omega, hkl, by simp only [List.length_append, List.length_singleton]; omega, hide ?_⟩, ?_⟩
      · rcases HD2.out with ⟨e1, e2, e3, e4⟩ | ⟨e1, e4, e5⟩
        · refine .inl ⟨e1, e2, by omega, G - 1, ?_⟩
          have hE := HE.out
          try simp only at hE
          rw [e4] at hE
          exact hE
        · refine .inr ⟨e1, ?_, e5⟩
          have hE := HE.out
          try simp only at hE
          rw [e4] at hE
          exact hE.symm
      · rw [msr_eq HS3.out, msr_eq HSx.out]
        split <;> simp <;> omega
    have f0 : isSym (tk ts j) [42] = false := by simpa using t0
    clear t0
    by_cases t1 : isSym (tk ts j) [47] = true
    · have hop : opOf 6 (tk ts j) = some 7 := by unfold opOf; simp [t1, f0]
      have f2 : isSym (tk ts j) [37] = false := by
        have ht := isSym_text t1
        unfold isSym
        rw [ht]
        simp
      rw [hop] at hG2
      have HE := hide hG2
      have hj1 := sym_next hv hjl t1
      clear hG2 hop
      have HPX := hide (show ∀ X : World, Below wr.heap.size wr X → PSt RT (X.setCell ⟨P, 1, none⟩ (.int .i64 ((j + 1 : Nat) : Int))) P A ts c (j + 1) d' 0 ∧ W.grownBy (X.setCell ⟨P, 1, none⟩ (.int .i64 ((j + 1 : Nat) : Int))) (some P) ∧ (X.setCell ⟨P, 1, none⟩ (.int .i64 ((j + 1 : Nat) : Int))).ownsRow W.heap.size 53 6 (.slice B es.length n) es.length (ndCells es) from fun X hb => ⟨(HSx.out.below hb).setAt (j + 1), gr_set (gr_bel HG.out hb) 1 _, own_fr (own_below HO.out hb) (gr_set (World.grownBy.refl X (some P)) 1 (.int .i64 ((j + 1 : Nat) : Int))) hP⟩)
      go_wp2_with (first
          | (go_at_call_of 156 (Value.string { data := #[42] }); refine (HF.out _ [42] hcur).mono ?_; (first | rw [t0] | rw [f0]); rintro e9 w9 ⟨rfl, hb9⟩; have hcur := bel2 hb9 hcur; have hS9 := HSx.out.below hcur; obtain ⟨c0, c1, c2, c3⟩ := hS9.cells; have hP9 := hS9.lt; have hfr := hS9.free; clear hS9)
          | (go_at_call_of 156 (Value.string { data := #[47] }); refine (HF.out _ [47] hcur).mono ?_; (first | rw [t1] | rw [f1]); rintro e9 w9 ⟨rfl, hb9⟩; have hcur := bel2 hb9 hcur; have hS9 := HSx.out.below hcur; obtain ⟨c0, c1, c2, c3⟩ := hS9.cells; have hP9 := hS9.lt; have hfr := hS9.free; clear hS9)
          | (go_at_call_of 156 (Value.string { data := #[37] }); refine (HF.out _ [37] hcur).mono ?_; (first | rw [t2] | rw [f2]); rintro e9 w9 ⟨rfl, hb9⟩; have hcur := bel2 hb9 hcur; have hS9 := HSx.out.below hcur; obtain ⟨c0, c1, c2, c3⟩ := hS9.cells; have hP9 := hS9.lt; have hfr := hS9.free; clear hS9))
      refine (HI.out _ (j + 1) (HPX.out w9 hcur).1 (HPX.out w9 hcur).2.1 hj1 (by omega)).mono ?_
      rw [HQ.out (j + 1)]
      rintro e2 w2 ⟨B2, n2, fs, k, d2, x2, rfl, ho2, hs2, hg2, hgx, hjk, hkl, hfl, hD2⟩
      have HO2 := hide (own_fr (HPX.out w9 hcur).2.2 hgx hP)
      have HJ := hide (fun (o : Int) => r_join w2 B B2 es fs n n2 W.heap.size W.heap.size o HO2.out ho2 (by omega) (by omega))
      have HS2 := hide hs2
      have HG2 := hide hg2
      have HD2 := hide hD2
      have hz2 := hg2.size
      clear ho2 hs2 hg2 hgx hD2 c0 c1 c2 c3 hfr HF HPX HI
      go_wp2_with fail
      refine (HJ.out 7).mono ?_
      rintro e3 w3 ⟨⟨B3, n3, rfl, ho3⟩, hb3⟩
      have HO3 := hide (own_low ho3 hz2)
      have HS3 := hide (HS2.out.below hb3)
      have HG3 := hide (gr_bel HG2.out hb3)
      clear ho3 HJ
      go_wp2
      refine ⟨⟨B3, n3, es ++ fs ++ [opNd 7], k, d2, x2, by first | rfl | (simp; done), HO3, HS3, HG3, by omega, hkl, by simp only [List.length_append, List.length_singleton]; omega, hide ?_⟩, ?_⟩
      · rcases HD2.out with ⟨e1, e2, e3, e4⟩ | ⟨e1, e4, e5⟩
        · refine .inl ⟨e1, e2, by omega, G - 1, ?_⟩
          have hE := HE.out
          try simp only at hE
          rw [e4] at hE
          exact hE
        · refine .inr ⟨e1, ?_, e5⟩
          have hE := HE.out
          try simp only at hE
          rw [e4] at hE
          exact hE.symm
      · rw [msr_eq HS3.out, msr_eq HSx.out]
        split <;> simp <;> omega
    have f1 : isSym (tk ts j) [47] = false := by simpa using t1
    clear t1
    by_cases t2 : isSym (tk ts j) [37] = true
    · have hop : opOf 6 (tk ts j) = some 8 := by unfold opOf; simp [t2, f0, f1]
      rw [hop] at hG2
      have HE := hide hG2
      have hj1 := sym_next hv hjl t2
      clear hG2 hop
      have HPX := hide (show ∀ X : World, Below wr.heap.size wr X → PSt RT (X.setCell ⟨P, 1, none⟩ (.int .i64 ((j + 1 : Nat) : Int))) P A ts c (j + 1) d' 0 ∧ W.grownBy (X.setCell ⟨P, 1, none⟩ (.int .i64 ((j + 1 : Nat) : Int))) (some P) ∧ (X.setCell ⟨P, 1, none⟩ (.int .i64 ((j + 1 : Nat) : Int))).ownsRow W.heap.size 53 6 (.slice B es.length n) es.length (ndCells es) from fun X hb => ⟨(HSx.out.below hb).setAt (j + 1), gr_set (gr_bel HG.out hb) 1 _, own_fr (own_below HO.out hb) (gr_set (World.grownBy.refl X (some P)) 1 (.int .i64 ((j + 1 : Nat) : Int))) hP⟩)
      go_wp2_with (first
          | (go_at_call_of 156 (Value.string { data := #[42] }); refine (HF.out _ [42] hcur).mono ?_; (first | rw [t0] | rw [f0]); rintro e9 w9 ⟨rfl, hb9⟩; have hcur := bel2 hb9 hcur; have hS9 := HSx.out.below hcur; obtain ⟨c0, c1, c2, c3⟩ := hS9.cells; have hP9 := hS9.lt; have hfr := hS9.free; clear hS9)
          | (go_at_call_of 156 (Value.string { data := #[47] }); refine (HF.out _ [47] hcur).mono ?_; (first | rw [t1] | rw [f1]); rintro e9 w9 ⟨rfl, hb9⟩; have hcur := bel2 hb9 hcur; have hS9 := HSx.out.below hcur; obtain ⟨c0, c1, c2, c3⟩ := hS9.cells; have hP9 := hS9.lt; have hfr := hS9.free; clear hS9)
          | (go_at_call_of 156 (Value.string { data := #[37] }); refine (HF.out _ [37] hcur).mono ?_; (first | rw [t2] | rw [f2]); rintro e9 w9 ⟨rfl, hb9⟩; have hcur := bel2 hb9 hcur; have hS9 := HSx.out.below hcur; obtain ⟨c0, c1, c2, c3⟩ := hS9.cells; have hP9 := hS9.lt; have hfr := hS9.free; clear hS9))
      refine (HI.out _ (j + 1) (HPX.out w9 hcur).1 (HPX.out w9 hcur).2.1 hj1 (by omega)).mono ?_
      rw [HQ.out (j + 1)]
      rintro e2 w2 ⟨B2, n2, fs, k, d2, x2, rfl, ho2, hs2, hg2, hgx, hjk, hkl, hfl, hD2⟩
      have HO2 := hide (own_fr (HPX.out w9 hcur).2.2 hgx hP)
      have HJ := hide (fun (o : Int) => r_join w2 B B2 es fs n n2 W.heap.size W.heap.size o HO2.out ho2 (by omega) (by omega))
      have HS2 := hide hs2
      have HG2 := hide hg2
      have HD2 := hide hD2
      have hz2 := hg2.size
      clear ho2 hs2 hg2 hgx hD2 c0 c1 c2 c3 hfr HF HPX HI
      go_wp2_with fail
      refine (HJ.out 8).mono ?_
      rintro e3 w3 ⟨⟨B3, n3, rfl, ho3⟩, hb3⟩
      have HO3 := hide (own_low ho3 hz2)
      have HS3 := hide (HS2.out.below hb3)
      have HG3 := hide (gr_bel HG2.out hb3)
      clear ho3 HJ
      go_wp2
      refine ⟨⟨B3, n3, es ++ fs ++ [opNd 8], k, d2, x2, by first | rfl | (simp; done), HO3, HS3, HG3, by omega, hkl, by simp only [List.length_append, List.length_singleton]; omega, hide ?_⟩, ?_⟩
      · rcases HD2.out with ⟨e1, e2, e3, e4⟩ | ⟨e1, e4, e5⟩
        · refine .inl ⟨e1, e2, by omega, G - 1, ?_⟩
          have hE := HE.out
          try simp only at hE
          rw [e4] at hE
          exact hE
        · refine .inr ⟨e1, ?_, e5⟩
          have hE := HE.out
          try simp only at hE
          rw [e4] at hE
          exact hE.symm
      · rw [msr_eq HS3.out, msr_eq HSx.out]
        split <;> simp <;> omega
    have f2 : isSym (tk ts j) [37] = false := by simpa using t2
    clear t2
    have hop : opOf 6 (tk ts j) = none := by unfold opOf; simp [f0, f1, f2]
    rw [hop] at hG2
    have HE := hide hG2
    clear hG2 hop
    go_wp2_with (first
          | (go_at_call_of 156 (Value.string { data := #[42] }); refine (HF.out _ [42] hcur).mono ?_; (first | rw [t0] | rw [f0]); rintro e9 w9 ⟨rfl, hb9⟩; have hcur := bel2 hb9 hcur)
          | (go_at_call_of 156 (Value.string { data := #[47] }); refine (HF.out _ [47] hcur).mono ?_; (first | rw [t1] | rw [f1]); rintro e9 w9 ⟨rfl, hb9⟩; have hcur := bel2 hb9 hcur)
          | (go_at_call_of 156 (Value.string { data := #[37] }); refine (HF.out _ [37] hcur).mono ?_; (first | rw [t2] | rw [f2]); rintro e9 w9 ⟨rfl, hb9⟩; have hcur := bel2 hb9 hcur))
    go_ret
    have hE := HE.out
    try simp only at hE
    rw [← hE]
    exact ⟨gr_bel HG.out hcur, ⟨B, n, rfl, own_below HO.out hcur⟩, HSx.out.below hcur⟩
end Go.Proofs.YtlfedcbihbigoaaGreatDoor
