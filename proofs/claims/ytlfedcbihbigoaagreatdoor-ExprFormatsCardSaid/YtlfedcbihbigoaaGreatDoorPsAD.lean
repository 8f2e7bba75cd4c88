/- The parsers' block: what it holds, what a walk may change; what a parser's function leaves. Contracts: the small functions of expr's parser. Contracts: a dot among bytes; begins of expr's parser. The levels of binary operators: maps that a call makes; what a look-up says. -/
import Derived.Test.YtlfedcbihbigoaaGreatDoorPrs
import Derived.Test.YtlfedcbihbigoaaGreatDoorBaseVX
import Derived.Maps.AppendAt
import Derived.Laws.AppendOwn
import Derived.RegionTactic
import Derived.BigGuardPart
import Derived.Test.YtlfedcbihbigoaaGreatDoorLawAB
import Derived.Lib.ConvBytes
import Derived.Test.YtlfedcbihbigoaaGreatDoorMapI
import Derived.Test.YtlfedcbihbigoaaGreatDoorExpAB
set_option linter.unusedVariables false
set_option linter.unusedSimpArgs false
namespace Go.Proofs.YtlfedcbihbigoaaGreatDoor
open Go.RowKit
/-- The tokens, below the parser's block. -/
def TokP (w : World) (P : Nat) (A : Option Addr) (ts : List Tok) : Prop := ∃ g off, A = some ⟨g, off, none⟩ ∧ g < P ∧ ∀ i (h : i < ts.length),
    w.cell? ⟨g, off + i * 4, none⟩ = some (.int .i64 ts[i].kind) ∧ w.cell? ⟨g, off + i * 4 + 1, none⟩ = some (str ts[i].text) ∧
    w.cell? ⟨g, off + i * 4 + 2, none⟩ = some (.int .i64 ts[i].num) ∧ w.cell? ⟨g, off + i * 4 + 3, none⟩ = some (.int .i64 ts[i].off)
theorem TokP.fr {w w' : World} {P : Nat} {A : Option Addr} {ts : List Tok} (h : TokP w P A ts) (hg : w.grownBy w' (some P)) : TokP w' P A ts := by
  obtain ⟨g, off, rfl, hP, hc⟩ := h
  refine ⟨g, off, rfl, hP, fun i hi => ?_⟩
  have hne : ∀ o, some (⟨g, o, none⟩ : Addr).block ≠ some P := fun o e => by injection e with e; simp at e; omega
  obtain ⟨h1, h2, h3, h4⟩ := hc i hi
  exact ⟨hg.cell h1 (hne _), hg.cell h2 (hne _), hg.cell h3 (hne _), hg.cell h4 (hne _)⟩
/-- The reserved words, below the parser's block. -/
def WrdP (w : World) (P : Nat) : Prop := 1 < P ∧ ∃ b off c, b < P ∧ w.cell? ⟨1, 0, none⟩ = some (.slice (some ⟨b, off, none⟩) 8 c) ∧ ∀ j, j < 8 → w.cell? ⟨b, off + j, none⟩ = some (str (wordsS.getD j []))
theorem WrdP.fr {w w' : World} {P : Nat} (h : WrdP w P) (hg : w.grownBy w' (some P)) : WrdP w' P := by
  obtain ⟨h0, b, off, c, hb, h1, h2⟩ := h
  have hne : ∀ g o, g < P → some (⟨g, o, none⟩ : Addr).block ≠ some P := fun g o hg e => by injection e with e; simp at e; omega
  exact ⟨h0, b, off, c, hb, hg.cell h1 (hne _ _ h0), fun j hj => hg.cell (h2 j hj) (hne _ _ hb)⟩
theorem WrdP.words {w : World} {P : Nat} (h : WrdP w P) (hP : P < w.heap.size) : StrVar w 1 wordsS := by
  obtain ⟨h0, b, off, c, hb, h1, h2⟩ := h
  exact ⟨Nat.lt_trans h0 hP, b, off, c, Nat.lt_trans hb hP, h1, h2⟩
theorem WrdP.of_words {w : World} (h : StrVar w 1 wordsS) : WrdP w w.heap.size := by
  obtain ⟨h0, b, off, c, hb, h1, h2⟩ := h
  exact ⟨h0, b, off, c, hb, h1, h2⟩
structure PSt (T : TypeId) (w : World) (P : Nat) (A : Option Addr) (ts : List Tok) (c i d : Nat) (e : Int) : Prop where
  blk : w.heap[P]? = some (.cells #[.slice A ts.length c, .int .i64 i, .int .i64 d, .int .i64 e] T (0, 0))
  tok : TokP w P A ts
  wrd : WrdP w P
theorem PSt.lt {T : TypeId} {w : World} {P : Nat} {A : Option Addr} {ts : List Tok} {c i d : Nat} {e : Int} (h : PSt T w P A ts c i d e) : P < w.heap.size := (Array.getElem?_eq_some_iff.1 h.blk).1
theorem PSt.cells {T : TypeId} {w : World} {P : Nat} {A : Option Addr} {ts : List Tok} {c i d : Nat} {e : Int} (h : PSt T w P A ts c i d e) :
    w.cell? ⟨P, 0, none⟩ = some (.slice A ts.length c) ∧ w.cell? ⟨P, 1, none⟩ = some (.int .i64 i) ∧ w.cell? ⟨P, 2, none⟩ = some (.int .i64 d) ∧ w.cell? ⟨P, 3, none⟩ = some (.int .i64 e) := by
  have hb := h.blk
  simp [World.cell?, hb]
theorem PSt.free {T : TypeId} {w : World} {P : Nat} {A : Option Addr} {ts : List Tok} {c i d : Nat} {e : Int} (h : PSt T w P A ts c i d e) (o : Nat) : w.frozen? ⟨P, o, none⟩ = false := by
  have hb := h.blk
  simp [World.frozen?, hb]
theorem grown_of_below {w w' : World} {r : Option Nat} (h : Below w.heap.size w w') : w.grownBy w' r := ⟨h.os, h.tape, h.output, h.size, fun k hk _ => h.block k hk⟩
theorem PSt.below {T : TypeId} {w w' : World} {P : Nat} {A : Option Addr} {ts : List Tok} {c i d : Nat} {e : Int} (h : PSt T w P A ts c i d e) (hb : Below w.heap.size w w') : PSt T w' P A ts c i d e :=
  ⟨(hb.block P h.lt).trans h.blk, h.tok.fr (grown_of_below hb), h.wrd.fr (grown_of_below hb)⟩
theorem gr_set {w w' : World} {b : Nat} (h : w.grownBy w' (some b)) (i : Nat) (v : Value) : w.grownBy (w'.setCell ⟨b, i, none⟩ v) (some b) :=
  ⟨h.os, h.tape, h.output, by simpa [World.setCell] using h.size, fun k hk hne => (Below.heap_setCell _ _ _ _ (fun e => hne (by rw [e]))).trans (h.block k hk hne)⟩
theorem PSt.setAt {T : TypeId} {w : World} {P : Nat} {A : Option Addr} {ts : List Tok} {c i d : Nat} {e : Int} (h : PSt T w P A ts c i d e) (j : Nat) : PSt T (w.setCell ⟨P, 1, none⟩ (.int .i64 j)) P A ts c j d e :=
  ⟨by have := heap_setCell_same w P 1 _ _ (.int .i64 (j : Int)) h.blk; simpa using this, h.tok.fr (gr_set (World.grownBy.refl _ _) _ _), h.wrd.fr (gr_set (World.grownBy.refl _ _) _ _)⟩
theorem PSt.setDepth {T : TypeId} {w : World} {P : Nat} {A : Option Addr} {ts : List Tok} {c i d : Nat} {e : Int} (h : PSt T w P A ts c i d e) (j : Nat) : PSt T (w.setCell ⟨P, 2, none⟩ (.int .i64 j)) P A ts c i j e :=
  ⟨by have := heap_setCell_same w P 2 _ _ (.int .i64 (j : Int)) h.blk; simpa using this, h.tok.fr (gr_set (World.grownBy.refl _ _) _ _), h.wrd.fr (gr_set (World.grownBy.refl _ _) _ _)⟩
theorem PSt.setErr {T : TypeId} {w : World} {P : Nat} {A : Option Addr} {ts : List Tok} {c i d : Nat} {e : Int} (h : PSt T w P A ts c i d e) (x : Int) : PSt T (w.setCell ⟨P, 3, none⟩ (.int .i64 x)) P A ts c i d x :=
  ⟨by have := heap_setCell_same w P 3 _ _ (.int .i64 x) h.blk; simpa using this, h.tok.fr (gr_set (World.grownBy.refl _ _) _ _), h.wrd.fr (gr_set (World.grownBy.refl _ _) _ _)⟩
/-- The cells of a token. -/
theorem TokP.at_ {w : World} {P : Nat} {A : Option Addr} {ts : List Tok} (h : TokP w P A ts) {i : Nat} (hi : i < ts.length) : ∃ g off, A = some ⟨g, off, none⟩ ∧ g < P ∧
    w.cell? ⟨g, off + i * 4, none⟩ = some (.int .i64 (tk ts i).kind) ∧ w.cell? ⟨g, off + i * 4 + 1, none⟩ = some (str (tk ts i).text) ∧
    w.cell? ⟨g, off + i * 4 + 2, none⟩ = some (.int .i64 (tk ts i).num) ∧ w.cell? ⟨g, off + i * 4 + 3, none⟩ = some (.int .i64 (tk ts i).off) := by
  obtain ⟨g, off, hA, hP, hc⟩ := h
  rw [tk_eq hi]
  exact ⟨g, off, hA, hP, hc i hi⟩
/-- What a parser's function leaves. -/
def PPost (T : TypeId) (W : World) (P : Nat) (A : Option Addr) (ts : List Tok) (c b d : Nat) (r : PR) (e : Ending) (w' : World) : Prop := W.grownBy w' (some P) ∧ match r with
  | .ok es j => OwnNds W w' es e ∧ PSt T w' P A ts c j d 0
  | .err x j => ∃ (es : List Nd) (d' : Nat), OwnNds W w' es e ∧ b ≤ j ∧ es.length ≤ j - b ∧ (d ≤ d' ∧ d' ≤ j) ∧ PSt T w' P A ts c j d' x
  | .out => False
theorem own_fr {w w' : World} {base e size n P : Nat} {v : Value} {xs : List Value} (h : w.ownsRow base e size v n xs) (hg : w.grownBy w' (some P)) (hP : P < base) : w'.ownsRow base e size v n xs :=
  h.kept hg (by
    rcases h.2 with ⟨rfl, _⟩ | ⟨g, cap, cur, rfl, hb, _⟩
    · left; rfl
    · right; simp only [Value.ownBlock]; intro e; injection e with e; omega)
theorem orow_cells {w : World} {base e size n c g o : Nat} {xs : List Value} (h : w.ownsRow base e size (.slice (some ⟨g, o, none⟩) n c) n xs) : o = 0 ∧ g < w.heap.size ∧ ∀ j u, xs[j]? = some u → w.cell? ((⟨g, o, none⟩ : Addr).add j) = some u := by
  rcases h.2 with ⟨hv, hn⟩ | ⟨g', cap, cur, hv, hg, hh, hnc, hcap, hsz, htk⟩
  · cases hv
  · injection hv with h1 h2 h3
    injection h1 with h1
    injection h1 with h1 h1b
    subst h1 h1b
    refine ⟨rfl, (Array.getElem?_eq_some_iff.1 hh).1, fun j u hu => ?_⟩
    have e : (⟨g, 0, none⟩ : Addr).add j = ⟨g, j, none⟩ := by cases j <;> simp [Addr.add]
    rw [e]
    have hj : j < n * size := by rw [← h.1]; exact (List.getElem?_eq_some_iff.1 hu).1
    have : cur[j]? = some u := by
      rw [← htk] at hu
      simpa [hj] using hu
    simp [World.cell?, hh, this]
end Go.Proofs.YtlfedcbihbigoaaGreatDoor

namespace Go.Proofs.YtlfedcbihbigoaaGreatDoor
open Go.RowKit
abbrev XT : TypeId := 63
set_option maxRecDepth 100000 in
set_option maxHeartbeats 1000000 in
theorem p_is (W : World) (P : Nat) (A : Option Addr) (ts : List Tok) (c i d : Nat) (e : Int) (hS : PSt XT W P A ts c i d e) (hi : i < ts.length) (hl : ts.length ≤ 1000000) (k : Int) (x : Bytes) :
    Calls Tryz.prog 85 #[.pointer (some ⟨P, 0, none⟩), .int .i64 k, str x] W fun e' w' => e' = .returned (.bool (e == 0 && ((tk ts i).kind == k && (tk ts i).text == x))) ∧ Below W.heap.size W w' := by
  obtain ⟨c0, c1, c2, c3⟩ := hS.cells
  obtain ⟨g, off, rfl, hgP, t0, t1, t2, t3⟩ := hS.tok.at_ hi
  have hP := hS.lt
  have hg : g < W.heap.size := Nat.lt_trans hgP hP
  clear hS
  generalize tk ts i = t at *
  obtain ⟨tk0, tk1, tk2, tk3⟩ := t
  simp only at t0 t1 t2 t3
  go_enter Tryz.func85, Tryz.ntmps85
  go_wp2
  go_region
  by_cases he : e = 0
  · subst he
    by_cases h1 : tk0 = k
    · subst h1
      go_wp2
      go_ret
      exact ⟨ret_bool (by simp), by (repeat (first | exact Below.refl _ _ | assumption | refine Below.drew ?_ | refine below_drewN ?_ _ | refine Below.alloc ?_ (by first | omega | simp <;> omega) _ | refine Below.setCell ?_ (by first | omega | simp <;> omega) _))⟩
    · have hb : (tk0 == k) = false := beq_eq_false_iff_ne.2 h1
      go_wp2
      go_ret
      exact ⟨ret_bool (by simp [hb]), by (repeat (first | exact Below.refl _ _ | assumption | refine Below.drew ?_ | refine below_drewN ?_ _ | refine Below.alloc ?_ (by first | omega | simp <;> omega) _ | refine Below.setCell ?_ (by first | omega | simp <;> omega) _))⟩
  · have hb : (e == 0) = false := beq_eq_false_iff_ne.2 he
    go_wp2
    go_ret
    exact ⟨ret_bool (by simp [hb]), by (repeat (first | exact Below.refl _ _ | assumption | refine Below.drew ?_ | refine below_drewN ?_ _ | refine Below.alloc ?_ (by first | omega | simp <;> omega) _ | refine Below.setCell ?_ (by first | omega | simp <;> omega) _))⟩
theorem p_constant (v : Vl) (w : World) : Calls Tryz.prog 154 #[v.agg] w fun e w' => OwnNds w w' [⟨0, v, [], 0⟩] e ∧ Below w.heap.size w w' := by
  have HO := hide (own_fresh (w.alloc (.cells #[.int .i64 v.kind, .int .i64 v.num, str v.text] 51)) (base := w.heap.size) (e := 53) (size := 6) (n := 1) (cur := #[.int .i64 0, .int .i64 v.kind, .int .i64 v.num, str v.text, str [], .int .i64 0]) (by simp) (by simp) (by decide))
  go_enter Tryz.func154, Tryz.ntmps154
  go_wp2
  go_ret
  refine ⟨⟨_, 1, by first | rfl | (simp; done), HO.out⟩, by (repeat (first | exact Below.refl _ _ | assumption | refine Below.drew ?_ | refine below_drewN ?_ _ | refine Below.alloc ?_ (by first | omega | simp <;> omega) _ | refine Below.setCell ?_ (by first | omega | simp <;> omega) _))⟩
theorem p_fail (W : World) (P : Nat) (A : Option Addr) (ts : List Tok) (c i d : Nat) (hS : PSt XT W P A ts c i d 0) (x : Int) :
    Calls Tryz.prog 87 #[.pointer (some ⟨P, 0, none⟩), .int .i64 x] W fun e' w' => e' = .returned (.slice none 0 0) ∧ PSt XT w' P A ts c i d x ∧ W.grownBy w' (some P) := by
  obtain ⟨c0, c1, c2, c3⟩ := hS.cells
  have hP := hS.lt
  have hf := hS.free
  have HS := hide (hS.setErr x)
  clear hS
  go_enter Tryz.func87, Tryz.ntmps87
  go_wp2
  go_ret
  exact ⟨rfl, HS.out, gr_set (World.grownBy.refl _ _) _ _⟩
theorem p_fail_no (W : World) (P : Nat) (A : Option Addr) (ts : List Tok) (c i d : Nat) (e : Int) (hS : PSt XT W P A ts c i d e) (he : e ≠ 0) (x : Int) :
    Calls Tryz.prog 87 #[.pointer (some ⟨P, 0, none⟩), .int .i64 x] W fun e' w' => e' = .returned (.slice none 0 0) ∧ Below W.heap.size W w' := by
  obtain ⟨c0, c1, c2, c3⟩ := hS.cells
  have hP := hS.lt
  have hb : (e == 0) = false := beq_eq_false_iff_ne.2 he
  clear hS
  go_enter Tryz.func87, Tryz.ntmps87
  go_wp2
  go_ret
  exact ⟨rfl, by (repeat (first | exact Below.refl _ _ | assumption | refine Below.drew ?_ | refine below_drewN ?_ _ | refine Below.alloc ?_ (by first | omega | simp <;> omega) _ | refine Below.setCell ?_ (by first | omega | simp <;> omega) _))⟩
theorem p_skip_no (W : World) (P : Nat) (A : Option Addr) (ts : List Tok) (c i d : Nat) (e : Int) (hS : PSt XT W P A ts c i d e) (hi : i < ts.length) (hl : ts.length ≤ 1000000) (k : Int) (x : Bytes) (hb : (e == 0 && ((tk ts i).kind == k && (tk ts i).text == x)) = false) :
    Calls Tryz.prog 152 #[.pointer (some ⟨P, 0, none⟩), .int .i64 k, str x] W fun e' w' => e' = .returned (.bool false) ∧ Below W.heap.size W w' := by
  have HI := hide (p_is W P A ts c i d e hS hi hl k x)
  clear hS
  go_enter Tryz.func152, Tryz.ntmps152
  go_wp2_with fail
  refine HI.out.mono ?_
  rw [hb]
  rintro e w1 ⟨rfl, hb1⟩
  clear hb
  go_wp2
  go_ret
  exact ⟨rfl, hb1⟩
theorem p_skip_yes (W : World) (P : Nat) (A : Option Addr) (ts : List Tok) (c i d : Nat) (hS : PSt XT W P A ts c i d 0) (hi : i < ts.length) (hl : ts.length ≤ 1000000) (k : Int) (x : Bytes) (hb : ((tk ts i).kind == k && (tk ts i).text == x) = true) :
    Calls Tryz.prog 152 #[.pointer (some ⟨P, 0, none⟩), .int .i64 k, str x] W fun e' w' => e' = .returned (.bool true) ∧ PSt XT w' P A ts c (i + 1) d 0 ∧ W.grownBy w' (some P) := by
  have HI := hide (p_is W P A ts c i d 0 hS hi hl k x)
  have HS := hide hS
  clear hS
  go_enter Tryz.func152, Tryz.ntmps152
  go_wp2_with fail
  refine HI.out.mono ?_
  rw [hb]
  rintro e w1 ⟨rfl, hb1⟩
  clear hb
  have hS1 := HS.out.below hb1
  obtain ⟨c0, c1, c2, c3⟩ := hS1.cells
  have hP := hS1.lt
  have hf := hS1.free
  have HS1 := hide (hS1.setAt (i + 1))
  clear hS1
  go_wp2
  go_ret
  exact ⟨rfl, HS1.out, gr_set (grown_of_below hb1) _ _⟩
end Go.Proofs.YtlfedcbihbigoaaGreatDoor

namespace Go.Proofs.YtlfedcbihbigoaaGreatDoor
open Go.RowKit
theorem dotL_none {x : Bytes} (h : ∀ j, j < x.length → ((x.getD j 0).toNat : Int) ≠ 46) : ¬ dotL x < x.length := by
  intro hl
  have h1 := dotL_stop x hl
  have h2 := h _ hl
  simp [List.getD_eq_getElem?_getD, hl, h1] at h2
theorem dotL_some {x : Bytes} {k : Nat} (hk : k < x.length) (h : ((x.getD k 0).toNat : Int) = 46) : dotL x < x.length := by
  rcases Nat.lt_or_ge (dotL x) x.length with h1 | h1
  · exact h1
  · obtain ⟨h2, h3⟩ := dotL_lt x k (by omega)
    simp [List.getD_eq_getElem?_getD, hk] at h
    exact absurd (by omega) h3
theorem name_of_dot {x : Bytes} (h : isQualB 24 x = true) : isNameB 24 x = !decide (dotL x < x.length) := by
  by_cases hd : dotL x < x.length
  · rw [decide_eq_true hd, Bool.not_true]
    unfold isNameB
    have hs := dotL_stop x hd
    match x, hd, hs with
    | [], hd, _ => simp at hd
    | a :: r, hd, hs =>
      by_cases h0 : dotL (a :: r) = 0
      · have : a.toNat = 46 := by simpa [h0] using hs
        have hl : letB a = false := letB_not (by omega)
        simp [hl]
      · have hm : (a :: r)[dotL (a :: r)] ∈ r := by
          obtain ⟨m, hm⟩ : ∃ m, dotL (a :: r) = m + 1 := ⟨dotL (a :: r) - 1, by omega⟩
          simp only [hm, List.getElem_cons_succ]
          exact List.getElem_mem _
        have hw : wordB (a :: r)[dotL (a :: r)] = false := wordB_not (letB_not (by omega)) (by omega) (by omega)
        have : r.all wordB = false := by
          rw [List.all_eq_false]
          exact ⟨_, hm, by simp [hw]⟩
        simp [this]
  · rw [decide_eq_false hd, Bool.not_false]
    unfold isQualB at h
    rwa [if_neg hd] at h
theorem below_bytesW {B : Nat} {a w : World} (h : Below B a w) (hB : B ≤ w.heap.size) (e : TypeId) (s : ByteArray) : Below B a (Lib.bytesWorld w e s) :=
  ⟨h.os, h.tape, h.output, by rw [Lib.bytesWorld_size]; exact Nat.le_succ_of_le h.size, fun k hk => (Lib.bytesWorld_at_old w e s k (Nat.lt_of_lt_of_le hk hB)).trans (h.block k hk)⟩
set_option maxRecDepth 100000 in
set_option maxHeartbeats 1000000 in
theorem bytes_Index_dot (g c : Nat) (x : Bytes) (W : World) (hc : ∀ j, j < x.length → W.cell? ⟨g, j, none⟩ = some (.int .u8 ((x.getD j 0).toNat : Int))) (hg : g < W.heap.size) (hl : x.length ≤ 1000) :
    Calls Tryz.prog 182 #[.slice (some ⟨g, 0, none⟩) x.length c, .int .u8 46] W fun e w' => (∃ z : Int, e = .returned (.int .i64 z) ∧ (0 ≤ z ↔ dotL x < x.length)) ∧ w' = W := by
  have HC := hide hc
  clear hc
  go_enter Tryz.func182, Tryz.ntmps182
  go_wp2
  go_loop [8] (fun i => ∃ k : Nat, i = .int .i64 k ∧ k ≤ x.length ∧ Hid (∀ j, j < k → ((x.getD j 0).toNat : Int) ≠ 46)) (fun i => x.length - (intOf i).toNat)
  case atStart => exact ⟨0, rfl, Nat.zero_le _, hide (fun j hj => absurd hj (Nat.not_lt_zero _))⟩
  case round =>
    obtain ⟨k, rfl, hk, HN⟩ := hrel
    by_cases hlt : k < x.length
    · have c0 := HC.out k hlt
      by_cases he : ((x.getD k 0).toNat : Int) = 46
      · have HY := hide (dotL_some hlt he)
        rw [he] at c0
        go_wp2
        go_ret
        exact ⟨⟨(k : Int), rfl, ⟨fun _ => HY.out, fun _ => Int.natCast_nonneg k⟩⟩, rfl⟩
      · have HN2 := hide (show ∀ j, j < k + 1 → ((x.getD j 0).toNat : Int) ≠ 46 from fun j hj => by
          by_cases e : j = k
          · subst e; exact he
          · exact HN.out j (by omega))
        generalize ((x.getD k 0).toNat : Int) = y at *
        have hb : (y == 46) = false := beq_eq_false_iff_ne.2 he
        have hb2 : (46 == y) = false := beq_eq_false_iff_ne.2 (fun h => he h.symm)
        go_wp2
        exact ⟨⟨k + 1, by go_num, by omega, HN2⟩, by simp [intOf]; omega⟩
    · obtain rfl : k = x.length := by omega
      have HD := hide (dotL_none HN.out)
      go_wp2
      go_ret
      exact ⟨⟨-1, rfl, ⟨fun h => by omega, fun h => absurd h HD.out⟩⟩, rfl⟩
theorem bytes_Contains_dot (g c : Nat) (x : Bytes) (W : World) (hc : ∀ j, j < x.length → W.cell? ⟨g, j, none⟩ = some (.int .u8 ((x.getD j 0).toNat : Int))) (hg : g < W.heap.size) (hl : x.length ≤ 1000) :
    Calls Tryz.prog 168 #[.slice (some ⟨g, 0, none⟩) x.length c, .int .u8 46] W fun e w' => e = .returned (.bool (decide (dotL x < x.length))) ∧ w' = W := by
  have HI := hide (bytes_Index_dot g c x W hc hg hl)
  clear hc
  go_enter Tryz.func168, Tryz.ntmps168
  go_wp2_with fail
  refine HI.out.mono ?_
  rintro e w1 ⟨⟨z, rfl, hz⟩, rfl⟩
  by_cases h : dotL x < x.length
  · have h0 := hz.2 h
    have HD := hide (decide_eq_true h)
    clear hz h
    go_wp2
    go_ret
    exact ⟨ret_bool HD.out.symm, rfl⟩
  · have h0 : z < 0 := Int.not_le.1 (fun e => h (hz.1 e))
    have HD := hide (decide_eq_false h)
    clear hz h
    go_wp2
    go_ret
    exact ⟨ret_bool ((decide_eq_false (by omega)).trans HD.out.symm), rfl⟩
theorem dot_at (w : World) (g : Nat) (hg : g = w.heap.size) (x : Bytes) (c : Nat) (hl : x.length ≤ 1000) :
    Calls Tryz.prog 168 #[.slice (some ⟨g, 0, none⟩) x.length c, .int .u8 46] (Lib.bytesWorld w 5 ⟨x.toArray⟩) fun e w' => e = .returned (.bool (decide (dotL x < x.length))) ∧ Below w.heap.size w w' := by
  subst hg
  refine (bytes_Contains_dot w.heap.size c x _ (fun j hj => Lib.bytesWorld_cell w _ ⟨x.toArray⟩ j (by show j < x.toArray.size; simpa using hj)) (by rw [Lib.bytesWorld_size]; omega) hl).mono ?_
  rintro e w' ⟨he, rfl⟩
  exact ⟨he, below_bytesW (Below.refl _ _) (Nat.le_refl _) _ _⟩
theorem below_last {B : Nat} {a w w' : World} (h : Below B a w) (hB : B ≤ w.heap.size) (k : Below w.heap.size w w') : Below B a w' := h.trans (k.mono hB)
set_option maxRecDepth 100000 in
set_option maxHeartbeats 2000000 in
theorem p_begins (W : World) (P : Nat) (A : Option Addr) (ts : List Tok) (c i d : Nat) (e : Int) (hS : PSt XT W P A ts c i d e) (hv : valT ts = true) (hi : i < ts.length) (hl : ts.length ≤ 1000000) :
    Calls Tryz.prog 151 #[.pointer (some ⟨P, 0, none⟩)] W fun e' w' => e' = .returned (.bool (begB ts i)) ∧ Below W.heap.size W w' := by
  obtain ⟨c0, c1, c2, c3⟩ := hS.cells
  have hP := hS.lt
  have HW := hide (hS.wrd.words hP)
  have hnx := fun hk => tk_next hv hi hk
  have hnm := fun hk => tk_name hv hi hk
  have HT := hide hS.tok
  clear hv hS
  by_cases k234 : (tk ts i).kind = 2 ∨ (tk ts i).kind = 3 ∨ (tk ts i).kind = 4
  · have HB := hide (show begB ts i = true from by unfold begB; rw [if_pos k234])
    obtain ⟨g, off, rfl, hgP, t0, t1, t2, t3⟩ := HT.out.at_ hi
    have hg : g < W.heap.size := Nat.lt_trans hgP hP
    clear hnx hnm HT
    generalize tk ts i = t at *
    obtain ⟨tk0, tk1, tk2, tk3⟩ := t
    simp only at t0 t1 t2 t3 k234
    rcases k234 with rfl | rfl | rfl
    all_goals
      go_enter Tryz.func151, Tryz.ntmps151
      go_wp2
      go_region
      go_wp2
      go_ret
      exact ⟨ret_bool HB.out.symm, by (repeat (first | exact Below.refl _ _ | assumption | refine Below.drew ?_ | refine below_drewN ?_ _ | refine Below.alloc ?_ (by first | omega | simp <;> omega) _ | refine Below.setCell ?_ (by first | omega | simp <;> omega) _))⟩
  · by_cases k1 : (tk ts i).kind = 1
    · have hn1 := hnx (by rw [k1]; decide)
      have hq := hnm k1
      by_cases hw : (tk ts i).text = wNull ∨ (tk ts i).text = wTrue ∨ (tk ts i).text = wFalse
      · have HB := hide (show begB ts i = true from by unfold begB; rw [if_neg k234, if_pos k1, if_pos hw])
        obtain ⟨g, off, rfl, hgP, t0, t1, t2, t3⟩ := HT.out.at_ hi
        have hg : g < W.heap.size := Nat.lt_trans hgP hP
        clear hnx hnm HT hq
        generalize tk ts i = t at *
        obtain ⟨tk0, tk1, tk2, tk3⟩ := t
        simp only at t0 t1 t2 t3 k1 hw
        subst k1
        clear k234
        rcases hw with rfl | rfl | rfl
        all_goals
          try unfold wNull at *
          try unfold wTrue at *
          try unfold wFalse at *
          go_enter Tryz.func151, Tryz.ntmps151
          go_wp2
          go_region
          go_wp2
          go_ret
          exact ⟨ret_bool HB.out.symm, by (repeat (first | exact Below.refl _ _ | assumption | refine Below.drew ?_ | refine below_drewN ?_ _ | refine Below.alloc ?_ (by first | omega | simp <;> omega) _ | refine Below.setCell ?_ (by first | omega | simp <;> omega) _))⟩
      · have HR0 := hide (fun (W' : World) (hb : Below W.heap.size W W') => token_Reserved_w ⟨(tk ts i).text.toArray⟩ W' (HW.out.below hb))
        have hbs : bs ⟨(tk ts i).text.toArray⟩ = (tk ts i).text := rfl
        rw [hbs] at HR0
        obtain ⟨g, off, rfl, hgP, t0, t1, t2, t3⟩ := HT.out.at_ hi
        obtain ⟨g', off', hgg, _, u0, u1, u2, u3⟩ := HT.out.at_ hn1
        injection hgg with hgg
        injection hgg with hgg1 hgg2
        subst hgg1 hgg2
        have hg : g < W.heap.size := Nat.lt_trans hgP hP
        have HB0 := hide (show begB ts i = (!resB (tk ts i).text && (isSym (tk ts (i + 1)) [40] || isNameB 24 (tk ts i).text)) from by unfold begB; rw [if_neg k234, if_pos k1, if_neg hw]; rfl)
        have HN := hide (name_of_dot hq)
        have hln := isQualB_len hq
        clear hnx hnm HT hq hbs
        generalize begB ts i = ans at *
        generalize tk ts i = t at *
        generalize tk ts (i + 1) = u at *
        obtain ⟨tk0, tk1, tk2, tk3⟩ := t
        obtain ⟨uk0, uk1, uk2, uk3⟩ := u
        simp only at t0 t1 t2 t3 u0 u1 u2 u3 k1 hw HB0 HN HR0 hln
        subst k1
        clear k234
        have w1 : (tk1 == wNull) = false := beq_eq_false_iff_ne.2 (fun h => hw (.inl h))
        have w2 : (tk1 == wTrue) = false := beq_eq_false_iff_ne.2 (fun h => hw (.inr (.inl h)))
        have w3 : (tk1 == wFalse) = false := beq_eq_false_iff_ne.2 (fun h => hw (.inr (.inr h)))
        unfold wNull at w1
        unfold wTrue at w2
        unfold wFalse at w3
        clear hw
        by_cases hr : resB tk1 = true
        · have HB := hide (show ans = false from by rw [HB0.out, hr]; rfl)
          rw [hr] at HR0
          clear hr HB0 HN
          go_enter Tryz.func151, Tryz.ntmps151
          go_wp2
          go_region
          go_wp2
          go_region
          go_wp2_with (go_at_call 90; refine (HR0.out _ (by (repeat (first | exact Below.refl _ _ | assumption | refine Below.drew ?_ | refine below_drewN ?_ _ | refine Below.alloc ?_ (by first | omega | simp <;> omega) _ | refine Below.setCell ?_ (by first | omega | simp <;> omega) _)))).mono ?_; rintro e2 w9 ⟨rfl, rfl⟩)
          go_ret
          exact ⟨ret_bool HB.out.symm, by (repeat (first | exact Below.refl _ _ | assumption | refine Below.drew ?_ | refine below_drewN ?_ _ | refine Below.alloc ?_ (by first | omega | simp <;> omega) _ | refine Below.setCell ?_ (by first | omega | simp <;> omega) _))⟩
        · have hr : resB tk1 = false := by simpa using hr
          rw [hr] at HR0 HB0
          have HB1 := hide (show ans = (isSym ⟨uk0, uk1, uk2, uk3⟩ [40] || isNameB 24 tk1) from HB0.out)
          clear hr HB0
          have kc := fun (w : World) (s : ByteArray) => Lib.run_convert_string_bytes (P := Tryz.prog) w 9 129 5 s Tryz.underlying9 Tryz.underlying129 Tryz.underlying5
          by_cases h5 : uk0 = 5
          · by_cases hp : uk1 = [40]
            · subst h5 hp
              have HB := hide (show ans = true from by rw [HB1.out]; rfl)
              clear HB1 HN
              go_enter Tryz.func151, Tryz.ntmps151
              go_wp2
              go_region
              go_wp2
              go_region
              go_wp2_with (go_at_call 90; refine (HR0.out _ (by (repeat (first | exact Below.refl _ _ | assumption | refine Below.drew ?_ | refine below_drewN ?_ _ | refine Below.alloc ?_ (by first | omega | simp <;> omega) _ | refine Below.setCell ?_ (by first | omega | simp <;> omega) _)))).mono ?_; rintro e2 w9 ⟨rfl, rfl⟩)
              go_ret
              exact ⟨ret_bool HB.out.symm, by (repeat (first | exact Below.refl _ _ | assumption | refine Below.drew ?_ | refine below_drewN ?_ _ | refine Below.alloc ?_ (by first | omega | simp <;> omega) _ | refine Below.setCell ?_ (by first | omega | simp <;> omega) _))⟩
            · subst h5
              have hpb : (uk1 == [40]) = false := beq_eq_false_iff_ne.2 hp
              have HB := hide (show ans = !decide (dotL tk1 < tk1.length) from by rw [HB1.out, HN.out]; unfold isSym; simp only [hpb]; rfl)
              clear HB1 HN hp
              go_enter Tryz.func151, Tryz.ntmps151
              go_wp2
              go_region
              go_wp2
              go_region
              go_wp2_with (first
                | (go_at_call 90; refine (HR0.out _ (by (repeat (first | exact Below.refl _ _ | assumption | refine Below.drew ?_ | refine below_drewN ?_ _ | refine Below.alloc ?_ (by first | omega | simp <;> omega) _ | refine Below.setCell ?_ (by first | omega | simp <;> omega) _)))).mono ?_; rintro e2 w9 ⟨rfl, rfl⟩)
                | (go_at_call 168; refine (dot_at _ _ (by simp) tk1 _ (by omega)).mono ?_; rintro e2 w8 ⟨rfl, hb8⟩))
              go_ret
              exact ⟨ret_bool HB.out.symm, below_last (by (repeat (first | exact Below.refl _ _ | assumption | refine Below.drew ?_ | refine below_drewN ?_ _ | refine Below.alloc ?_ (by first | omega | simp <;> omega) _ | refine Below.setCell ?_ (by first | omega | simp <;> omega) _))) (by simp; omega) hb8⟩
          · have h5b : (uk0 == 5) = false := beq_eq_false_iff_ne.2 h5
            have HB := hide (show ans = !decide (dotL tk1 < tk1.length) from by rw [HB1.out, HN.out]; unfold isSym; simp only [h5b]; rfl)
            clear HB1 HN h5
            go_enter Tryz.func151, Tryz.ntmps151
            go_wp2
            go_region
            go_wp2
            go_region
            go_wp2_with (first
              | (go_at_call 90; refine (HR0.out _ (by (repeat (first | exact Below.refl _ _ | assumption | refine Below.drew ?_ | refine below_drewN ?_ _ | refine Below.alloc ?_ (by first | omega | simp <;> omega) _ | refine Below.setCell ?_ (by first | omega | simp <;> omega) _)))).mono ?_; rintro e2 w9 ⟨rfl, rfl⟩)
              | (go_at_call 168; refine (dot_at _ _ (by simp) tk1 _ (by omega)).mono ?_; rintro e2 w8 ⟨rfl, hb8⟩))
            go_ret
            exact ⟨ret_bool HB.out.symm, below_last (by (repeat (first | exact Below.refl _ _ | assumption | refine Below.drew ?_ | refine below_drewN ?_ _ | refine Below.alloc ?_ (by first | omega | simp <;> omega) _ | refine Below.setCell ?_ (by first | omega | simp <;> omega) _))) (by simp; omega) hb8⟩
    · have k1b : ((tk ts i).kind == 1) = false := beq_eq_false_iff_ne.2 k1
      have HB0 := hide (show begB ts i = (isSym (tk ts i) [45] || isSym (tk ts i) [40]) from by unfold begB; rw [if_neg k234, if_neg k1])
      obtain ⟨g, off, rfl, hgP, t0, t1, t2, t3⟩ := HT.out.at_ hi
      have hg : g < W.heap.size := Nat.lt_trans hgP hP
      clear hnx hnm HT
      generalize begB ts i = ans at *
      generalize tk ts i = t at *
      obtain ⟨tk0, tk1, tk2, tk3⟩ := t
      simp only at t0 t1 t2 t3 k1 k1b HB0 k234
      have b2 : (tk0 == 2) = false := beq_eq_false_iff_ne.2 (fun h => k234 (.inl h))
      have b3 : (tk0 == 3) = false := beq_eq_false_iff_ne.2 (fun h => k234 (.inr (.inl h)))
      have b4 : (tk0 == 4) = false := beq_eq_false_iff_ne.2 (fun h => k234 (.inr (.inr h)))
      by_cases h5 : tk0 = 5
      · subst h5
        have HB1 := hide (show ans = (tk1 == [45] || tk1 == [40]) from by rw [HB0.out]; unfold isSym; simp)
        clear HB0 k234 k1 k1b b2 b3 b4
        by_cases hm : tk1 = [45]
        · subst hm
          have HB := hide (show ans = true from by rw [HB1.out]; rfl)
          go_enter Tryz.func151, Tryz.ntmps151
          go_wp2
          go_region
          go_wp2
          go_ret
          exact ⟨ret_bool HB.out.symm, by (repeat (first | exact Below.refl _ _ | assumption | refine Below.drew ?_ | refine below_drewN ?_ _ | refine Below.alloc ?_ (by first | omega | simp <;> omega) _ | refine Below.setCell ?_ (by first | omega | simp <;> omega) _))⟩
        · have hmb : (tk1 == [45]) = false := beq_eq_false_iff_ne.2 hm
          have HB := hide (show ans = (tk1 == [40]) from by rw [HB1.out, hmb]; rfl)
          clear HB1 hm
          go_enter Tryz.func151, Tryz.ntmps151
          go_wp2
          go_region
          go_wp2
          go_ret
          exact ⟨ret_bool HB.out.symm, by (repeat (first | exact Below.refl _ _ | assumption | refine Below.drew ?_ | refine below_drewN ?_ _ | refine Below.alloc ?_ (by first | omega | simp <;> omega) _ | refine Below.setCell ?_ (by first | omega | simp <;> omega) _))⟩
      · have h5b : (tk0 == 5) = false := beq_eq_false_iff_ne.2 h5
        have HB := hide (show ans = false from by rw [HB0.out]; unfold isSym; simp [h5b])
        clear HB0 k234 k1 h5
        go_enter Tryz.func151, Tryz.ntmps151
        go_wp2
        go_region
        go_wp2
        go_ret
        exact ⟨ret_bool HB.out.symm, by (repeat (first | exact Below.refl _ _ | assumption | refine Below.drew ?_ | refine below_drewN ?_ _ | refine Below.alloc ?_ (by first | omega | simp <;> omega) _ | refine Below.setCell ?_ (by first | omega | simp <;> omega) _))⟩
end Go.Proofs.YtlfedcbihbigoaaGreatDoor

namespace Go.Proofs.YtlfedcbihbigoaaGreatDoor
open Go.RowKit Go.WideMaps Go.Maps
/-- An operator of a level, by its text. -/
def opT (l : Nat) (x : Bytes) : Option Int :=
  if l = 0 then (if x = [111, 114] then some 15 else none)
  else if l = 1 then (if x = [97, 110, 100] then some 14 else none)
  else if l = 4 then (if x = [43, 43] then some 9 else none)
  else if l = 5 then (if x = [43] then some 4 else if x = [45] then some 5 else none)
  else if l = 6 then (if x = [42] then some 6 else if x = [47] then some 7 else if x = [37] then some 8 else none)
  else none
def lk (l : Nat) : Int := if l ≤ 1 then 1 else 5
def lvD (l : Nat) : DataW Unit :=
  if l = 0 then (DataW.map [] : DataW Unit).put (.string [111, 114]) (.lit (.int .i64 15))
  else if l = 1 then (DataW.map [] : DataW Unit).put (.string [97, 110, 100]) (.lit (.int .i64 14))
  else if l = 4 then (DataW.map [] : DataW Unit).put (.string [43, 43]) (.lit (.int .i64 9))
  else if l = 5 then ((DataW.map [] : DataW Unit).put (.string [43]) (.lit (.int .i64 4))).put (.string [45]) (.lit (.int .i64 5))
  else if l = 6 then (((DataW.map [] : DataW Unit).put (.string [42]) (.lit (.int .i64 6))).put (.string [47]) (.lit (.int .i64 7))).put (.string [37]) (.lit (.int .i64 8))
  else .map []
theorem opOf_T (l : Nat) (t : Tok) (hl : l = 0 ∨ l = 1 ∨ l = 4 ∨ l = 5 ∨ l = 6) : opOf l t = if t.kind = lk l then opT l t.text else none := by
  unfold opOf opT lk isSym isWord
  rcases hl with rfl | rfl | rfl | rfl | rfl
  all_goals
    simp only [if_true, if_false]
    by_cases hk : t.kind = 1 <;> by_cases hk5 : t.kind = 5 <;> simp [hk, hk5]
theorem lvD_0 : lvD 0 = .map [(.string [111, 114], .lit (.int .i64 15))] := by rfl
theorem lvD_1 : lvD 1 = .map [(.string [97, 110, 100], .lit (.int .i64 14))] := by rfl
theorem lvD_4 : lvD 4 = .map [(.string [43, 43], .lit (.int .i64 9))] := by rfl
theorem lvD_5 : lvD 5 = .map [(.string [43], .lit (.int .i64 4)), (.string [45], .lit (.int .i64 5))] := by rfl
theorem lvD_6 : lvD 6 = .map [(.string [37], .lit (.int .i64 8)), (.string [42], .lit (.int .i64 6)), (.string [47], .lit (.int .i64 7))] := by rfl
theorem same_key (a b : Bytes) : (Lit.string a).sameKey (.string b) = (a == b) := by
  unfold Lit.sameKey
  first | rfl | simp | (rw [Bool.eq_iff_iff]; simp)
theorem lv_has (l : Nat) (hl : l = 0 ∨ l = 1 ∨ l = 4 ∨ l = 5 ∨ l = 6) (x : Bytes) : Maps.has (lvD l) (.string x) = (opT l x).isSome ∧ (lvD l).atKey (.string x) (.lit (.int .i64 0)) = .lit (.int .i64 ((opT l x).getD 0)) := by
  rcases hl with rfl | rfl | rfl | rfl | rfl
  · rw [lvD_0]
    by_cases h : x = [111, 114]
    · subst h; exact ⟨rfl, rfl⟩
    · have hb : (([111, 114] : Bytes) == x) = false := beq_eq_false_iff_ne.2 (fun e => h e.symm)
      simp [Maps.has, DataW.atKey, same_key, hb, opT, h]
  · rw [lvD_1]
    by_cases h : x = [97, 110, 100]
    · subst h; exact ⟨rfl, rfl⟩
    · have hb : (([97, 110, 100] : Bytes) == x) = false := beq_eq_false_iff_ne.2 (fun e => h e.symm)
      simp [Maps.has, DataW.atKey, same_key, hb, opT, h]
  · rw [lvD_4]
    by_cases h : x = [43, 43]
    · subst h; exact ⟨rfl, rfl⟩
    · have hb : (([43, 43] : Bytes) == x) = false := beq_eq_false_iff_ne.2 (fun e => h e.symm)
      simp [Maps.has, DataW.atKey, same_key, hb, opT, h]
  · rw [lvD_5]
    by_cases h : x = [43]
    · subst h; exact ⟨rfl, rfl⟩
    by_cases h2 : x = [45]
    · subst h2; exact ⟨rfl, rfl⟩
    · have hb : (([43] : Bytes) == x) = false := beq_eq_false_iff_ne.2 (fun e => h e.symm)
      have hb2 : (([45] : Bytes) == x) = false := beq_eq_false_iff_ne.2 (fun e => h2 e.symm)
      simp [Maps.has, DataW.atKey, same_key, hb, hb2, opT, h, h2]
  · rw [lvD_6]
    by_cases h : x = [37]
    · subst h; exact ⟨rfl, rfl⟩
    by_cases h2 : x = [42]
    · subst h2; exact ⟨rfl, rfl⟩
    by_cases h3 : x = [47]
    · subst h3; exact ⟨rfl, rfl⟩
    · have hb : (([37] : Bytes) == x) = false := beq_eq_false_iff_ne.2 (fun e => h e.symm)
      have hb2 : (([42] : Bytes) == x) = false := beq_eq_false_iff_ne.2 (fun e => h2 e.symm)
      have hb3 : (([47] : Bytes) == x) = false := beq_eq_false_iff_ne.2 (fun e => h3 e.symm)
      simp [Maps.has, DataW.atKey, same_key, hb, hb2, hb3, opT, h, h2, h3]
set_option maxRecDepth 100000 in
/-- A level's map: what a look-up says. -/
theorem lv_look {w : World} {B n l : Nat} (hl : l = 0 ∨ l = 1 ∨ l = 4 ∨ l = 5 ∨ l = 6) (h : w.ownsMap Tryz.prog 9 (plainElem Tryz.prog 3) B n (lvD l)) (x : Bytes) (hs : x.length ≤ maxLen) :
    (Instr.lookup 109 (.map (some B)) (str x) true).run Tryz.prog w = .ok (.tuple #[.int .i64 ((opT l x).getD 0), .bool (opT l x).isSome]) w := by
  obtain ⟨v, ps, hrun, hv⟩ := h.look_ok lawStr Tryz.underlying109 (zeroI w) (plainElem_int Tryz.underlying3 (by decide)) (keyOf_string_mk (s := ⟨x.toArray⟩) Tryz.underlying9 (by show x.toArray.size ≤ _; simpa using hs))
  obtain ⟨c, rfl, hc, hwc⟩ := plainElem_int_inv Tryz.underlying3 hv
  have e : (⟨x.toArray⟩ : ByteArray).data.toList = x := rfl
  rw [e] at hrun hc
  obtain ⟨h1, h2⟩ := lv_has l hl x
  have hc2 := congrArg Prod.fst hc
  simp only at hc2
  rw [h2] at hc2
  have hc3 : c = (opT l x).getD 0 := by injection hc2 with hc2; injection hc2 with _ hc2; exact hc2.symm
  subst hc3
  rw [h1] at hrun
  exact hrun
/-- The levels from one on. -/
def LevelsAt (w : World) (P : Nat) (A : Option Addr) (m l : Nat) : Prop := m = 0 ∨ ∃ g off, A = some ⟨g, off, none⟩ ∧ P < g ∧ g < w.heap.size ∧ ∀ q, q < m → w.cell? ⟨g, off + q * 2, none⟩ = some (.int .i64 (lk (l + q))) ∧
  ∃ B n, w.cell? ⟨g, off + q * 2 + 1, none⟩ = some (.map (some B)) ∧ P < B ∧ w.ownsMap Tryz.prog 9 (plainElem Tryz.prog 3) B n (lvD (l + q))
theorem LevelsAt.fr {w w' : World} {P : Nat} {A : Option Addr} {m l : Nat} (h : LevelsAt w P A m l) (hg : w.grownBy w' (some P)) : LevelsAt w' P A m l := by
  rcases h with h | ⟨g, off, rfl, hP, hs, hc⟩
  · exact .inl h
  · refine .inr ⟨g, off, rfl, hP, Nat.lt_of_lt_of_le hs hg.size, fun q hq => ?_⟩
    have hne : ∀ o, some (⟨g, o, none⟩ : Addr).block ≠ some P := fun o e => by injection e with e; simp at e; omega
    obtain ⟨h1, B, n, h2, hB, h3⟩ := hc q hq
    exact ⟨hg.cell h1 (hne _), B, n, hg.cell h2 (hne _), hB, h3.kept hg (by intro e; injection e with e; omega)⟩
theorem LevelsAt.tail {w : World} {P g off : Nat} {m l : Nat} (h : LevelsAt w P (some ⟨g, off, none⟩) (m + 1) l) : LevelsAt w P (some ⟨g, off + 2, none⟩) m (l + 1) := by
  rcases h with h | ⟨g', off', he, hP, hs, hc⟩
  · cases h
  · injection he with he; injection he with e1 e2; subst e1 e2
    refine .inr ⟨g, off + 2, rfl, hP, hs, fun q hq => ?_⟩
    obtain ⟨h1, B, n, h2, hB, h3⟩ := hc (q + 1) (by omega)
    rw [show off + (q + 1) * 2 = off + 2 + q * 2 by omega, show l + (q + 1) = l + 1 + q by omega] at h1
    rw [show off + (q + 1) * 2 = off + 2 + q * 2 by omega] at h2
    rw [show l + (q + 1) = l + 1 + q by omega] at h3
    exact ⟨h1, B, n, h2, hB, h3⟩
set_option maxRecDepth 100000 in
set_option maxHeartbeats 2000000 in
theorem loose_any (P : Nat) (w : World) (hP : P < w.heap.size) : Calls Tryz.prog 51 #[] w fun e w' => (∃ A, e = .returned (.slice A 2 2) ∧ LevelsAt w' P A 2 0) ∧ Below w.heap.size w w' := by
  have hmm := @run_makeMap Tryz.prog
  have hm := World.ownsMap_made (H := Unit) w Tryz.prog 9 (plainElem Tryz.prog 3)
  obtain ⟨w1, r1, o1, g1⟩ := hm.update (t := 109) lawStr Tryz.underlying109 (by decide) (keyOf_string_mk (s := ⟨#[111, 114]⟩) Tryz.underlying9 (by decide)) (plainElem_int (a := 15) Tryz.underlying3 (by decide))
  have hm2 := World.ownsMap_made (H := Unit) w1 Tryz.prog 9 (plainElem Tryz.prog 3)
  obtain ⟨w2, r2, o2, g2⟩ := hm2.update (t := 109) lawStr Tryz.underlying109 (by decide) (keyOf_string_mk (s := ⟨#[97, 110, 100]⟩) Tryz.underlying9 (by decide)) (plainElem_int (a := 14) Tryz.underlying3 (by decide))
  have z1 : w.heap.size < w1.heap.size := by have := g1.size; simp at this; omega
  have z2 : w1.heap.size < w2.heap.size := by have := g2.size; simp at this; omega
  have hb1 : Below w.heap.size w w1 := ((Below.refl _ w).alloc (Nat.le_refl _) _).grown g1 (by simp) (fun k hk => by injection hk with hk; omega)
  have hb2 : Below w.heap.size w w2 := (hb1.alloc (by omega) _).grown g2 (by simp; omega) (fun k hk => by injection hk with hk; omega)
  have o1' : w2.ownsMap Tryz.prog 9 (plainElem Tryz.prog 3) w.heap.size 1 (lvD 0) := (o1.alloc (.map #[] 0)).kept g2 (by intro e; injection e with e; omega)
  have HO := hide (And.intro o1' o2)
  have HB := hide hb2
  clear hm hm2 o1 o2 o1' g1 g2 hb1 hb2
  go_enter Tryz.func51, Tryz.ntmps51
  go_wp2
  go_ret
  refine ⟨⟨_, rfl, .inr ⟨w2.heap.size, 0, rfl, by omega, by simp, fun q hq => ?_⟩⟩, HB.out.alloc (by omega) _⟩
  match q, hq with
  | 0, _ => exact ⟨by simp [go_sem, lk], w.heap.size, 1, by simp [go_sem], hP, HO.out.1.alloc _⟩
  | 1, _ => exact ⟨by simp [go_sem, lk], w1.heap.size, 1, by simp [go_sem], by omega, HO.out.2.alloc _⟩
set_option maxRecDepth 100000 in
set_option maxHeartbeats 2000000 in
theorem tight_any (P : Nat) (w : World) (hP : P < w.heap.size) : Calls Tryz.prog 122 #[] w fun e w' => (∃ A, e = .returned (.slice A 3 3) ∧ LevelsAt w' P A 3 4) ∧ Below w.heap.size w w' := by
  have hmm := @run_makeMap Tryz.prog
  have hm := World.ownsMap_made (H := Unit) w Tryz.prog 9 (plainElem Tryz.prog 3)
  obtain ⟨w1, r1, o1, g1⟩ := hm.update (t := 109) lawStr Tryz.underlying109 (by decide) (keyOf_string_mk (s := ⟨#[43, 43]⟩) Tryz.underlying9 (by decide)) (plainElem_int (a := 9) Tryz.underlying3 (by decide))
  have hm2 := World.ownsMap_made (H := Unit) w1 Tryz.prog 9 (plainElem Tryz.prog 3)
  obtain ⟨w2, r2, o2, g2⟩ := hm2.update (t := 109) lawStr Tryz.underlying109 (by decide) (keyOf_string_mk (s := ⟨#[43]⟩) Tryz.underlying9 (by decide)) (plainElem_int (a := 4) Tryz.underlying3 (by decide))
  obtain ⟨w3, r3, o3, g3⟩ := o2.update (t := 109) lawStr Tryz.underlying109 (by decide) (keyOf_string_mk (s := ⟨#[45]⟩) Tryz.underlying9 (by decide)) (plainElem_int (a := 5) Tryz.underlying3 (by decide))
  have hm3 := World.ownsMap_made (H := Unit) w3 Tryz.prog 9 (plainElem Tryz.prog 3)
  obtain ⟨w4, r4, o4, g4⟩ := hm3.update (t := 109) lawStr Tryz.underlying109 (by decide) (keyOf_string_mk (s := ⟨#[42]⟩) Tryz.underlying9 (by decide)) (plainElem_int (a := 6) Tryz.underlying3 (by decide))
  obtain ⟨w5, r5, o5, g5⟩ := o4.update (t := 109) lawStr Tryz.underlying109 (by decide) (keyOf_string_mk (s := ⟨#[47]⟩) Tryz.underlying9 (by decide)) (plainElem_int (a := 7) Tryz.underlying3 (by decide))
  obtain ⟨w6, r6, o6, g6⟩ := o5.update (t := 109) lawStr Tryz.underlying109 (by decide) (keyOf_string_mk (s := ⟨#[37]⟩) Tryz.underlying9 (by decide)) (plainElem_int (a := 8) Tryz.underlying3 (by decide))
  have z1 : w.heap.size < w1.heap.size := by have := g1.size; simp at this; omega
  have z2 : w1.heap.size < w2.heap.size := by have := g2.size; simp at this; omega
  have z3 : w2.heap.size ≤ w3.heap.size := g3.size
  have z4 : w3.heap.size < w4.heap.size := by have := g4.size; simp at this; omega
  have z5 : w4.heap.size ≤ w5.heap.size := g5.size
  have z6 : w5.heap.size ≤ w6.heap.size := g6.size
  have hb1 : Below w.heap.size w w1 := ((Below.refl _ w).alloc (Nat.le_refl _) _).grown g1 (by simp) (fun k hk => by injection hk with hk; omega)
  have hb2 : Below w.heap.size w w2 := (hb1.alloc (by omega) _).grown g2 (by simp; omega) (fun k hk => by injection hk with hk; omega)
  have hb3 : Below w.heap.size w w3 := hb2.grown g3 (by omega) (fun k hk => by injection hk with hk; omega)
  have hb4 : Below w.heap.size w w4 := (hb3.alloc (by omega) _).grown g4 (by simp; omega) (fun k hk => by injection hk with hk; omega)
  have hb5 : Below w.heap.size w w5 := hb4.grown g5 (by omega) (fun k hk => by injection hk with hk; omega)
  have hb6 : Below w.heap.size w w6 := hb5.grown g6 (by omega) (fun k hk => by injection hk with hk; omega)
  have q1 : w6.ownsMap Tryz.prog 9 (plainElem Tryz.prog 3) w.heap.size 1 (lvD 4) :=
    (((((o1.alloc (.map #[] 0)).kept g2 (by intro e; injection e with e; omega)).kept g3 (by intro e; injection e with e; omega)).alloc (.map #[] 0)).kept g4 (by intro e; injection e with e; omega)).kept g5 (by intro e; injection e with e; omega) |>.kept g6 (by intro e; injection e with e; omega)
  have q2 : w6.ownsMap Tryz.prog 9 (plainElem Tryz.prog 3) w1.heap.size 2 (lvD 5) :=
    (((o3.alloc (.map #[] 0)).kept g4 (by intro e; injection e with e; omega)).kept g5 (by intro e; injection e with e; omega)).kept g6 (by intro e; injection e with e; omega)
  have HO := hide (And.intro q1 (And.intro q2 o6))
  have HB := hide hb6
  clear hm hm2 hm3 o1 o2 o3 o4 o5 o6 q1 q2 g1 g2 g3 g4 g5 g6 hb1 hb2 hb3 hb4 hb5 hb6
  go_enter Tryz.func122, Tryz.ntmps122
  go_wp2
  go_ret
  refine ⟨⟨_, rfl, .inr ⟨w6.heap.size, 0, rfl, by omega, by simp, fun q hq => ?_⟩⟩, HB.out.alloc (by omega) _⟩
  match q, hq with
  | 0, _ => exact ⟨by simp [go_sem, lk], w.heap.size, 1, by simp [go_sem], hP, HO.out.1.alloc _⟩
  | 1, _ => exact ⟨by simp [go_sem, lk], w1.heap.size, 2, by simp [go_sem], by omega, HO.out.2.1.alloc _⟩
  | 2, _ => exact ⟨by simp [go_sem, lk], w3.heap.size, 3, by simp [go_sem], by omega, HO.out.2.2.alloc _⟩
end Go.Proofs.YtlfedcbihbigoaaGreatDoor
