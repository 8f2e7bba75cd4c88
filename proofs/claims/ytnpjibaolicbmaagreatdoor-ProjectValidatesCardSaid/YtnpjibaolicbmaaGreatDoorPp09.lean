/- Parts of the proof. -/
import Derived.Test.YtnpjibaolicbmaaGreatDoorPp08
set_option linter.unusedVariables false
set_option linter.unusedSimpArgs false
set_option maxHeartbeats 4000000
namespace Go.Proofs.YtnpjibaolicbmaaGreatDoor
open Go.Proofs.Tryz
open Go.RowKit
structure It where
 name : a_3
 fn : Int
 col : a_3
 num : Int
 expr : List Nd
structure Stp where
 op : Int
 src : a_3
 names : List a_3
 others : List a_3
 items : List It
 cond : List Nd
abbrev itV (x : It) (A : Option Addr) (c : Nat) : Value := .agg #[str x.name, .int .i64 x.fn, str x.col, .int .i64 x.num, .slice A x.expr.length c]
structure Adr where
 nA : Option Addr
 nC : Nat
 oA : Option Addr
 oC : Nat
 iA : Option Addr
 iC : Nat
 cA : Option Addr
 cC : Nat
def Stp.cells (s : Stp) (a : Adr) : List Value := [.int .i64 s.op, str s.src, .slice a.nA s.names.length a.nC, .slice a.oA s.others.length a.oC, .slice a.iA s.items.length a.iC, .slice a.cA s.cond.length a.cC]
abbrev Stp.agg (s : Stp) (a : Adr) : Value := .agg #[.int .i64 s.op, str s.src, .slice a.nA s.names.length a.nC, .slice a.oA s.others.length a.oC, .slice a.iA s.items.length a.iC, .slice a.cA s.cond.length a.cC]
def It.ok (x : It) : Prop := b_Q x.expr ∧ x.expr.length ≤ 8796093022208
structure Stp.ok (s : Stp) : Prop where
 src : s.src.length ≤ maxLen
 names : s.names.length ≤ 8796093022208
 others : s.others.length ≤ 8796093022208
 items : s.items.length ≤ 8796093022208
 item : ∀ x ∈ s.items, x.ok
 cond : s.cond.length ≤ 8796093022208
 condN : b_Q s.cond
def o_w (w : World) (g off : Nat) (x : It) : Prop :=
 w.cell? ⟨g, off, none⟩ = some (str x.name) ∧ w.cell? ⟨g, off + 1, none⟩ = some (.int .i64 x.fn) ∧ w.cell? ⟨g, off + 2, none⟩ = some (str x.col) ∧ w.cell? ⟨g, off + 3, none⟩ = some (.int .i64 x.num) ∧
  ∃ (A : Option Addr) (c : Nat), w.cell? ⟨g, off + 4, none⟩ = some (.slice A x.expr.length c) ∧ b_q w A x.expr
def h_1 (w : World) (A : Option Addr) (its : List It) : Prop :=
 its = [] ∨ ∃ g off, A = some ⟨g, off, none⟩ ∧ g < w.heap.size ∧ ∀ i (h : i < its.length), o_w w g (off + i * 5) its[i]
structure Stp.At (w : World) (s : Stp) (a : Adr) : Prop where
 names : b_b w a.nA s.names
 others : b_b w a.oA s.others
 items : h_1 w a.iA s.items
 cond : b_q w a.cA s.cond
 cn : s.names.length ≤ a.nC
 co : s.others.length ≤ a.oC
 ci : s.items.length ≤ a.iC
def m_V (w : World) (g off : Nat) (s : Stp) : Prop :=
 ∃ a : Adr, s.At w a ∧ w.cell? ⟨g, off, none⟩ = some (.int .i64 s.op) ∧ w.cell? ⟨g, off + 1, none⟩ = some (str s.src) ∧ w.cell? ⟨g, off + 2, none⟩ = some (.slice a.nA s.names.length a.nC) ∧ w.cell? ⟨g, off + 3, none⟩ = some (.slice a.oA s.others.length a.oC) ∧ w.cell? ⟨g, off + 4, none⟩ = some (.slice a.iA s.items.length a.iC) ∧ w.cell? ⟨g, off + 5, none⟩ = some (.slice a.cA s.cond.length a.cC)
def b_L (w : World) (A : Option Addr) (ss : List Stp) : Prop :=
 ss = [] ∨ ∃ g off, A = some ⟨g, off, none⟩ ∧ g < w.heap.size ∧ ∀ i (h : i < ss.length), m_V w g (off + i * 6) ss[i]
theorem o_w.below {w w' : World} {g off : Nat} {x : It} (h : o_w w g off x) (hg : g < w.heap.size) (hb : Below w.heap.size w w') : o_w w' g off x := by
 obtain ⟨h0, h1, h2, h3, A, c, h4, hn⟩ := h
 exact ⟨(hb.cell (p := ⟨g, _, none⟩) hg).trans h0, (hb.cell (p := ⟨g, _, none⟩) hg).trans h1, (hb.cell (p := ⟨g, _, none⟩) hg).trans h2, (hb.cell (p := ⟨g, _, none⟩) hg).trans h3, A, c, (hb.cell (p := ⟨g, _, none⟩) hg).trans h4, hn.below hb⟩
theorem h_1.below {w w' : World} {A : Option Addr} {its : List It} (h : h_1 w A its) (hb : Below w.heap.size w w') : h_1 w' A its := by
 rcases h with h | ⟨g, off, hA, hg, hc⟩
 ·exact .inl h
 ·exact .inr ⟨g, off, hA, Nat.lt_of_lt_of_le hg hb.size, fun i hi => (hc i hi).below hg hb⟩
theorem Stp.At.below {w w' : World} {s : Stp} {a : Adr} (h : s.At w a) (hb : Below w.heap.size w w') : s.At w' a :=
 ⟨h.names.below hb, h.others.below hb, h.items.below hb, h.cond.below hb, h.cn, h.co, h.ci⟩
theorem m_V.below {w w' : World} {g off : Nat} {s : Stp} (h : m_V w g off s) (hg : g < w.heap.size) (hb : Below w.heap.size w w') : m_V w' g off s := by
 obtain ⟨a, ha, h0, h1, h2, h3, h4, h5⟩ := h
 exact ⟨a, ha.below hb, (hb.cell (p := ⟨g, _, none⟩) hg).trans h0, (hb.cell (p := ⟨g, _, none⟩) hg).trans h1, (hb.cell (p := ⟨g, _, none⟩) hg).trans h2, (hb.cell (p := ⟨g, _, none⟩) hg).trans h3, (hb.cell (p := ⟨g, _, none⟩) hg).trans h4, (hb.cell (p := ⟨g, _, none⟩) hg).trans h5⟩
theorem b_L.below {w w' : World} {A : Option Addr} {ss : List Stp} (h : b_L w A ss) (hb : Below w.heap.size w w') : b_L w' A ss := by
 rcases h with h | ⟨g, off, hA, hg, hc⟩
 ·exact .inl h
 ·exact .inr ⟨g, off, hA, Nat.lt_of_lt_of_le hg hb.size, fun i hi => (hc i hi).below hg hb⟩
def nmB (s : a_3) : Bool := a_i 24 s && !c_T s
def qlB (s : a_3) : Bool := b_4 24 s && !c_T s
def b_P : a_3 := [115, 101, 108, 102]
def a_F (s : a_3) : Int := if nmB s = true then 0 else 4
def c_E (s : a_3) : Int := if s = b_P then 0 else if qlB s = true then 0 else 4
def a_L (s : a_3) : Int := if qlB s = true then 0 else 4
def d_O (l : List a_3) (i : Nat) : Int := if nmB (l.getD i []) = true then (if l.getD i [] ∈ l.take i then 6 else 0) else 4
def a_z (l : List a_3) (least : Nat) : Int := if l.length < least ∨ 12 < l.length then 2 else a_o (d_O l) l.length
def it0 : It := ⟨[], 0, [], 0, []⟩
def d_r (its : List It) (i : Nat) (fB cB nB eB : Bool) : Int :=
 let x := its.getD i it0
 if (fB = false ∧ x.fn ≠ 0) ∨ (cB = false ∧ x.col ≠ []) ∨ (nB = false ∧ x.num ≠ 0) ∨ (eB = false ∧ x.expr ≠ []) then 8
 else if nmB x.name = false then 4 else if x.name ∈ (its.take i).map It.name then 6 else 0
def a_N (its : List It) (least : Nat) (fB cB nB eB : Bool) (own : It → Int) : Int :=
 if its.length < least ∨ 12 < its.length then 2
 else a_o (fun i => if d_r its i fB cB nB eB = 0 then own (its.getD i it0) else d_r its i fB cB nB eB) its.length
def b_Y (names : List a_3) (x : It) : Int :=
 if x.name ∈ names then 6 else if x.fn < 1 ∨ 7 < x.fn ∨ (x.fn = 1 ∧ x.col ≠ []) then 8 else if x.fn ≠ 1 then a_F x.col else 0
def f_0 (f : Int) : Bool × Bool × Bool :=
 if f = 1 ∨ f = 8 ∨ f = 9 then (true, false, false) else if f = 3 ∨ f = 12 ∨ f = 13 then (true, true, false) else if f = 10 ∨ f = 11 then (true, true, true) else (false, false, false)
def b_A (x : It) : Int :=
 if (f_0 x.fn).1 = false ∨ ((f_0 x.fn).2.1 = false ∧ x.col ≠ []) ∨ ((f_0 x.fn).2.2 = false ∧ x.num ≠ 0) then 8
 else if (f_0 x.fn).2.1 = true ∧ nmB x.col = false then 4
 else if (f_0 x.fn).2.2 = true ∧ (x.num < 1 ∨ 4096 < x.num) then 1 else 0
def a_c (a b : Int) : Int := if a = 0 then b else a
def g_1 (s : Stp) : Int :=
 a_c (c_E s.src) (a_c (a_z s.names 1) (a_c (a_z s.others 1) (a_c (if s.names.length = s.others.length then 0 else 8) (a_N s.items 0 false true false false fun x => a_F x.col))))
def f_A (s : Stp) : Int :=
 a_c (a_z s.names 0) (if s.names.length + s.items.length = 0 then 2 else a_N s.items 0 true true false false (b_Y s.names))
def e_z (s : Stp) : Int := a_c (a_z s.names 0) (a_c (a_z s.others 0) (a_N s.items 1 true true true false b_A))
def b_z (op : Int) (src : a_3) (ln lo li lc : Nat) : Bool :=
 (!(op == 0 || (decide (4 ≤ op) && decide (op ≤ 9))) && src != []) || (!((decide (4 ≤ op) && decide (op ≤ 7)) || op == 3 || op == 11 || op == 12) && ln != 0) || (!((decide (4 ≤ op) && decide (op ≤ 7)) || op == 12) && lo != 0) || (!(op == 2 || op == 4 || op == 5 || op == 11 || op == 12) && li != 0) || (op != 1 && lc != 0)
def opS (s : Stp) : Int :=
 if s.op = 0 then a_L s.src else if s.op = 1 then a_u s.cond else if s.op = 2 then a_N s.items 1 false false false true (fun x => a_u x.expr)
 else if s.op = 3 then a_z s.names 1 else if s.op = 4 ∨ s.op = 5 ∨ s.op = 6 ∨ s.op = 7 then g_1 s else if s.op = 8 ∨ s.op = 9 then c_E s.src
 else if s.op = 11 then f_A s else if s.op = 12 then e_z s else 0
def c_M (s : Stp) : Int := if s.op < 0 ∨ 12 < s.op ∨ b_z s.op s.src s.names.length s.others.length s.items.length s.cond.length = true then 8 else opS s
def o_i : Stp := ⟨0, [], [], [], [], []⟩
def b_o (ss : List Stp) : Int :=
 if ss.length < 1 ∨ 16 < ss.length then 2
 else a_o (fun i => if c_M (ss.getD i o_i) = 0 then (if ((ss.getD i o_i).op = 0 ↔ i = 0) then 0 else 8) else c_M (ss.getD i o_i)) ss.length
theorem b_F {w : World} {g off : Nat} {l : List a_3} (hg : g < w.heap.size) (hc : ∀ j (h : j < l.length), w.cell? ⟨g, off + j, none⟩ = some (str l[j])) (k : Nat) : b_b w (some ⟨g, off, none⟩) (l.take k) :=
 .inr ⟨g, off, rfl, hg, fun i hi => by
  have h1 : i < l.length := by rw [List.length_take] at hi; omega
  rw [hc i h1, List.getElem_take]⟩
theorem d_7 (x : a_3) (W : World) : Calls prog 32 #[str x] W fun e w' => e = .returned (.bool (nmB x)) ∧ Below W.heap.size W w' := d_o ⟨x.toArray⟩ W
theorem d_D (x : a_3) (W : World) (h : x.length ≤ maxLen) : Calls prog 67 #[str x] W fun e w' => e = .returned (.bool (qlB x)) ∧ Below W.heap.size W w' := b_O ⟨x.toArray⟩ W (by show x.toArray.size ≤ _; simpa using h)
theorem d_a (A : Option Addr) (l : List a_3) (c : Nat) (x : a_3) (W : World) (h : b_b W A l) (hl : l.length ≤ 8796093022208) : Calls prog 34 #[.slice A l.length c, str x] W fun e w' => e = .returned (.bool (decide (x ∈ l))) ∧ W = w' := by
 refine (d_4 A l c ⟨x.toArray⟩ W h hl).mono ?_
 rintro e w' ⟨rfl, rfl⟩
 refine ⟨a_a ?_, rfl⟩
 show l.contains x = _
 cases hc : l.contains x
 ·symm; rw [decide_eq_false_iff_not]; intro hm; rw [← List.contains_iff_mem, hc] at hm; cases hm
 ·symm; rw [decide_eq_true_eq]; exact List.contains_iff_mem.1 hc
theorem f_f {l : List a_3} {k : Nat} (h : k < l.length) : d_O l k = if nmB l[k] = true then (if l[k] ∈ l.take k then 6 else 0) else 4 := by
 unfold d_O; rw [List.getD_eq_getElem?_getD, List.getElem?_eq_getElem h]; rfl
set_option maxRecDepth 100000
theorem b_S (A : Option Addr) (l : List a_3) (c m : Nat) (w : World) (h : b_b w A l) (hl : l.length ≤ 8796093022208) (hm : m ≤ 1) (hcp : l.length ≤ c) :
  Calls prog 237 #[.slice A l.length c, .int .i64 m] w fun e w' => e = .returned (.int .i64 (a_z l m)) ∧ Below w.heap.size w w' := by
 have HA := a_2 h
 clear h
 by_cases h1 : l.length < m
 ·have HE := a_2 (show a_z l m = 2 from by unfold a_z; rw [if_pos (.inl h1)])
  go_enter func237, ntmps237
  go_wp2
  exact j_X
 by_cases h2 : 12 < l.length
 ·have HE := a_2 (show a_z l m = 2 from by unfold a_z; rw [if_pos (.inr h2)])
  go_enter func237, ntmps237
  go_wp2
  exact j_X
 have HE := a_2 (show a_z l m = a_o (d_O l) l.length from by unfold a_z; rw [if_neg o_])
 go_enter func237, ntmps237
 go_wp2
 go_loopw [5] (fun i wr => ∃ k : Nat, k ≤ l.length ∧ i = .int .i64 k ∧ Hid (∀ j, j < k → d_O l j = 0) ∧ Below w.heap.size w wr) (fun i _ => l.length - (intOf i).toNat)
 case atStart => exact ⟨0, o_, rfl, fun j hj => absurd hj (Nat.not_lt_zero _), b_ _ _⟩
 case round =>
  obtain ⟨k, hk, rfl, HZ, hbel⟩ := hrel
  by_cases hlt : k < l.length
  ·rcases HA.out.below hbel with e | ⟨g, off, rfl, hg, hc⟩
   ·exact absurd hlt e_
   have c0 := hc k hlt; have HC := a_2 (fun W => d_7 l[k] W)
   have HH := a_2 (fun W (hb : Below wr.heap.size wr W) => by
    have := d_a (some ⟨g, off, none⟩) (l.take k) c l[k] W ((b_F hg hc k).below hb) (by rw [List.length_take]; omega); rw [List.length_take, Nat.min_eq_left (Nat.le_of_lt hlt)] at this
    exact this)
   have HT := a_2 (f_f hlt); have HC2 := a_2 (fun W (hb : Below wr.heap.size wr W) => (hb.cell (p := ⟨g, off + k, none⟩) hg).trans c0); refine p_S ?_; intro HF HN hkc; clear hc; generalize l[k] = x at *
   by_cases hx : nmB x = true
   rotate_left
   ·rw [if_neg hx] at HT
    have hxf : nmB x = false := by simpa using hx
    rw [hxf] at HC; have HR := a_2 (HF.out 4 HT.out d_)
    go_wp2_with (go_at_call 32; refine (HC.out _).mono ?_; rintro e w1 ⟨rfl, hb1⟩)
    exact i_M
   rw [hx] at HC; rw [if_pos hx] at HT
   by_cases hin : x ∈ l.take k
   ·rw [if_pos hin] at HT
    refine p_r ?_; intro hinb; rw [hinb] at HH; have HR := a_2 (HF.out 6 HT.out d_); clear hin hinb hx
    go_wp2_with (go_at_call 32; refine (HC.out _).mono ?_; rintro e w1 ⟨rfl, hb1⟩; have c1 := HC2.out _ hb1)
    go_region_with (go_at_call 34; refine (HH.out _ (by first | exact hb1 | exact a_4 hb1 1 | exact zX)).mono ?_; rintro e w' ⟨rfl, rfl⟩)
    all_goals (try go_wp2)
    all_goals
     exact q_u
   ·rw [if_neg hin] at HT
    refine p_g ?_; intro hinb; rw [hinb] at HH; have HR := a_2 (HN.out HT.out); clear hin hinb hx
    go_wp2_with (go_at_call 32; refine (HC.out _).mono ?_; rintro e w1 ⟨rfl, hb1⟩; have c1 := HC2.out _ hb1)
    go_region_with (go_at_call 34; refine (HH.out _ (by first | exact hb1 | exact a_4 hb1 1 | exact zX)).mono ?_; rintro e w' ⟨rfl, rfl⟩)
    all_goals (try go_wp2)
    all_goals exact ⟨⟨k + 1, o_, t_, HR, by first | exact a_9 hb1 hbel | exact a_4 (a_9 hb1 hbel) 1 | exact zX⟩, w_⟩
  ·obtain rfl : k = l.length := by omega
   refine i_2 ?_; intro HR
   go_wp2
   exact i_N
set_option maxRecDepth 512
theorem c_p (x : a_3) (w : World) (hx : x.length ≤ maxLen) : Calls prog 239 #[str x] w fun e w' => e = .returned (.int .i64 (c_E x)) ∧ Below w.heap.size w w' := by
 have H := a_2 (fun W => d_D x W hx)
 clear hx
 by_cases hs : x = b_P
 ·subst hs
  clear H
  go_enter func239, ntmps239
  go_wp2
  go_ret
  exact ⟨a_d d_, b_ _ _⟩
 have hne : (x == [115, 101, 108, 102]) = false := beq_eq_false_iff_ne.2 hs
 have HE := a_2 (show c_E x = if qlB x = true then 0 else 4 from by unfold c_E; rw [if_neg hs])
 clear hs
 generalize qlB x = q at *
 go_enter func239, ntmps239
 cases q
 all_goals
  go_wp2_with (go_at_call 67; refine (H.out _).mono ?_; rintro e w1 ⟨rfl, hb1⟩)
  exact m_o
theorem k_X (op : Int) (src : a_3) (nA : Option Addr) (ln nC : Nat) (oA : Option Addr) (lo oC : Nat) (iA : Option Addr) (li iC : Nat) (cA : Option Addr) (lc cC : Nat) (w : World) (h0 : 0 ≤ op) (h1 : op ≤ 12) :
  Calls prog 235 #[.agg #[.int .i64 op, str src, .slice nA ln nC, .slice oA lo oC, .slice iA li iC, .slice cA lc cC]] w fun e w' => e = .returned (.bool (b_z op src ln lo li lc)) ∧ Below w.heap.size w w' := by
 refine q_G ?_; intro hop
 rcases hop with rfl | rfl | rfl | rfl | rfl | rfl | rfl | rfl | rfl | rfl | rfl | rfl | rfl
 all_goals
  go_enter func235, ntmps235
  go_wp2
  all_goals
   go_ret
   exact ⟨a_a (by simp_all [b_z] <;> first | omega | (cases lc <;> simp) | (cases src <;> simp)), zX⟩
theorem f_R (s : Stp) (a : Adr) (w : World) (h0 : 0 ≤ s.op) (h1 : s.op ≤ 12) :
  Calls prog 235 #[s.agg a] w fun e w' => e = .returned (.bool (b_z s.op s.src s.names.length s.others.length s.items.length s.cond.length)) ∧ Below w.heap.size w w' :=
 k_X _ _ _ _ _ _ _ _ _ _ _ _ _ _ w h0 h1
end Go.Proofs.YtnpjibaolicbmaaGreatDoor
