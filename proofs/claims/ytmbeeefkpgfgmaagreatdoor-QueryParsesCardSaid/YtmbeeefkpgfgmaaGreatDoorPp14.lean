/- Parts of the proof. -/
import Derived.Test.YtmbeeefkpgfgmaaGreatDoorPp12
import Derived.Test.YtmbeeefkpgfgmaaGreatDoorPp13
set_option linter.unusedVariables false
set_option linter.unusedSimpArgs false
namespace Go.Proofs.YtmbeeefkpgfgmaaGreatDoor
open Go.RowKit
def b_p (f : Nat → Int) : Nat → Int
 | 0 => 0
 | n + 1 => if b_p f n = 0 then f n else b_p f n
theorem c_u {f : Nat → Int} : ∀ {n : Nat}, (∀ j, j < n → f j = 0) → b_p f n = 0
 | 0, _ => rfl
 | n + 1, h => by
  unfold b_p
  rw [if_pos (c_u fun j hj => h j o_)]
  exact h n o_
theorem c_b {f : Nat → Int} {k : Nat} (h : ∀ j, j < k → f j = 0) (hf : f k ≠ 0) : ∀ {n : Nat}, k < n → b_p f n = f k
 | 0, hk => absurd hk (Nat.not_lt_zero _)
 | n + 1, hk => by
  unfold b_p
  by_cases e : k = n
  ·subst e; rw [if_pos (c_u h)]
  ·have ih := c_b h hf (n := n) o_
   rw [ih, if_neg hf]
theorem e_N {P : Nat → Prop} {k : Nat} (h : ∀ j, j < k → P j) (hk : P k) : ∀ j, j < k + 1 → P j := fun j hj => by
 by_cases e : j = k
 ·subst e; exact hk
 ·exact h j o_
def p_u (w : World) (S : Option Addr) (sh : List (Int × Int)) : Prop :=
 sh = [] ∨ ∃ g off, S = some ⟨g, off, none⟩ ∧ g < w.heap.size ∧ ∀ i (h : i < sh.length), w.cell? ⟨g, off + i * 2, none⟩ = some (.int .i64 sh[i].1) ∧ w.cell? ⟨g, off + i * 2 + 1, none⟩ = some (.int .i64 sh[i].2)
theorem p_u.below {w w' : World} {S : Option Addr} {sh : List (Int × Int)} (h : p_u w S sh) (hb : Below w.heap.size w w') : p_u w' S sh := by
 rcases h with h | ⟨g, off, hA, hg, hc⟩
 ·exact .inl h
 ·refine .inr ⟨g, off, hA, Nat.lt_of_lt_of_le hg hb.size, fun i hi => ?_⟩
  obtain ⟨h1, h2⟩ := hc i hi
  exact ⟨(hb.cell (p := ⟨g, _, none⟩) hg).trans h1, (hb.cell (p := ⟨g, _, none⟩) hg).trans h2⟩
structure Zon where
 name : a_3
 off : Int
 sh : List (Int × Int)
def r_P (w : World) (Z : Option Addr) (zs : List Zon) : Prop :=
 zs = [] ∨ ∃ g off, Z = some ⟨g, off, none⟩ ∧ g < w.heap.size ∧ ∀ i (h : i < zs.length), ∃ (S : Option Addr) (sc : Nat),
  w.cell? ⟨g, off + i * 3, none⟩ = some (str zs[i].name) ∧ w.cell? ⟨g, off + i * 3 + 1, none⟩ = some (.int .i64 zs[i].off) ∧ w.cell? ⟨g, off + i * 3 + 2, none⟩ = some (.slice S zs[i].sh.length sc) ∧ p_u w S zs[i].sh ∧ zs[i].sh.length ≤ 1000000
theorem r_P.below {w w' : World} {Z : Option Addr} {zs : List Zon} (h : r_P w Z zs) (hb : Below w.heap.size w w') : r_P w' Z zs := by
 rcases h with h | ⟨g, off, hA, hg, hc⟩
 ·exact .inl h
 ·refine .inr ⟨g, off, hA, Nat.lt_of_lt_of_le hg hb.size, fun i hi => ?_⟩
  obtain ⟨S, sc, h1, h2, h3, h4, h5⟩ := hc i hi
  exact ⟨S, sc, (hb.cell (p := ⟨g, _, none⟩) hg).trans h1, (hb.cell (p := ⟨g, _, none⟩) hg).trans h2, (hb.cell (p := ⟨g, _, none⟩) hg).trans h3, h4.below hb, h5⟩
structure It where
 name : a_3
 fn : Int
 col : a_3
 num : Int
 expr : List Nd
structure Stp where
 op : Int
 src : a_3
 names : List a_3
 others : List a_3
 items : List It
 cond : List Nd
abbrev itV (x : It) (A : Option Addr) (c : Nat) : Value := .agg #[str x.name, .int .i64 x.fn, str x.col, .int .i64 x.num, .slice A x.expr.length c]
structure Adr where
 nA : Option Addr
 nC : Nat
 oA : Option Addr
 oC : Nat
 iA : Option Addr
 iC : Nat
 cA : Option Addr
 cC : Nat
def Stp.cells (s : Stp) (a : Adr) : List Value := [.int .i64 s.op, str s.src, .slice a.nA s.names.length a.nC, .slice a.oA s.others.length a.oC, .slice a.iA s.items.length a.iC, .slice a.cA s.cond.length a.cC]
abbrev Stp.agg (s : Stp) (a : Adr) : Value := .agg #[.int .i64 s.op, str s.src, .slice a.nA s.names.length a.nC, .slice a.oA s.others.length a.oC, .slice a.iA s.items.length a.iC, .slice a.cA s.cond.length a.cC]
def It.ok (x : It) : Prop := b_9 x.expr ∧ x.expr.length ≤ 1000000
structure Stp.ok (s : Stp) : Prop where
 src : s.src.length ≤ maxLen
 names : s.names.length ≤ 1000000
 others : s.others.length ≤ 1000000
 items : s.items.length ≤ 1000000
 item : ∀ x ∈ s.items, x.ok
 cond : s.cond.length ≤ 1000000
 condN : b_9 s.cond
def r_U (w : World) (g off : Nat) (x : It) : Prop :=
 w.cell? ⟨g, off, none⟩ = some (str x.name) ∧ w.cell? ⟨g, off + 1, none⟩ = some (.int .i64 x.fn) ∧ w.cell? ⟨g, off + 2, none⟩ = some (str x.col) ∧ w.cell? ⟨g, off + 3, none⟩ = some (.int .i64 x.num) ∧
  ∃ (A : Option Addr) (c : Nat), w.cell? ⟨g, off + 4, none⟩ = some (.slice A x.expr.length c) ∧ c_L w A x.expr
def f_r (w : World) (A : Option Addr) (its : List It) : Prop :=
 its = [] ∨ ∃ g off, A = some ⟨g, off, none⟩ ∧ g < w.heap.size ∧ ∀ i (h : i < its.length), r_U w g (off + i * 5) its[i]
structure Stp.At (w : World) (s : Stp) (a : Adr) : Prop where
 names : b_l w a.nA s.names
 others : b_l w a.oA s.others
 items : f_r w a.iA s.items
 cond : c_L w a.cA s.cond
 cn : s.names.length ≤ a.nC
 co : s.others.length ≤ a.oC
 ci : s.items.length ≤ a.iC
def o_F (w : World) (g off : Nat) (s : Stp) : Prop :=
 ∃ a : Adr, s.At w a ∧ w.cell? ⟨g, off, none⟩ = some (.int .i64 s.op) ∧ w.cell? ⟨g, off + 1, none⟩ = some (str s.src) ∧ w.cell? ⟨g, off + 2, none⟩ = some (.slice a.nA s.names.length a.nC) ∧ w.cell? ⟨g, off + 3, none⟩ = some (.slice a.oA s.others.length a.oC) ∧ w.cell? ⟨g, off + 4, none⟩ = some (.slice a.iA s.items.length a.iC) ∧ w.cell? ⟨g, off + 5, none⟩ = some (.slice a.cA s.cond.length a.cC)
def d_l (w : World) (A : Option Addr) (ss : List Stp) : Prop :=
 ss = [] ∨ ∃ g off, A = some ⟨g, off, none⟩ ∧ g < w.heap.size ∧ ∀ i (h : i < ss.length), o_F w g (off + i * 6) ss[i]
theorem r_U.below {w w' : World} {g off : Nat} {x : It} (h : r_U w g off x) (hg : g < w.heap.size) (hb : Below w.heap.size w w') : r_U w' g off x := by
 obtain ⟨h0, h1, h2, h3, A, c, h4, hn⟩ := h
 exact ⟨(hb.cell (p := ⟨g, _, none⟩) hg).trans h0, (hb.cell (p := ⟨g, _, none⟩) hg).trans h1, (hb.cell (p := ⟨g, _, none⟩) hg).trans h2, (hb.cell (p := ⟨g, _, none⟩) hg).trans h3, A, c, (hb.cell (p := ⟨g, _, none⟩) hg).trans h4, hn.below hb⟩
theorem f_r.below {w w' : World} {A : Option Addr} {its : List It} (h : f_r w A its) (hb : Below w.heap.size w w') : f_r w' A its := by
 rcases h with h | ⟨g, off, hA, hg, hc⟩
 ·exact .inl h
 ·exact .inr ⟨g, off, hA, Nat.lt_of_lt_of_le hg hb.size, fun i hi => (hc i hi).below hg hb⟩
theorem Stp.At.below {w w' : World} {s : Stp} {a : Adr} (h : s.At w a) (hb : Below w.heap.size w w') : s.At w' a :=
 ⟨h.names.below hb, h.others.below hb, h.items.below hb, h.cond.below hb, h.cn, h.co, h.ci⟩
theorem o_F.below {w w' : World} {g off : Nat} {s : Stp} (h : o_F w g off s) (hg : g < w.heap.size) (hb : Below w.heap.size w w') : o_F w' g off s := by
 obtain ⟨a, ha, h0, h1, h2, h3, h4, h5⟩ := h
 exact ⟨a, ha.below hb, (hb.cell (p := ⟨g, _, none⟩) hg).trans h0, (hb.cell (p := ⟨g, _, none⟩) hg).trans h1, (hb.cell (p := ⟨g, _, none⟩) hg).trans h2, (hb.cell (p := ⟨g, _, none⟩) hg).trans h3, (hb.cell (p := ⟨g, _, none⟩) hg).trans h4, (hb.cell (p := ⟨g, _, none⟩) hg).trans h5⟩
theorem d_l.below {w w' : World} {A : Option Addr} {ss : List Stp} (h : d_l w A ss) (hb : Below w.heap.size w w') : d_l w' A ss := by
 rcases h with h | ⟨g, off, hA, hg, hc⟩
 ·exact .inl h
 ·exact .inr ⟨g, off, hA, Nat.lt_of_lt_of_le hg hb.size, fun i hi => (hc i hi).below hg hb⟩
def nmB (s : a_3) : Bool := a_p 24 s && !e_g s
def qlB (s : a_3) : Bool := a_K 24 s && !e_g s
def m_z : a_3 := [115, 101, 108, 102]
def c_f (s : a_3) : Int := if nmB s = true then 0 else 4
def d_3 (s : a_3) : Int := if s = m_z then 0 else if qlB s = true then 0 else 4
def g_X (s : a_3) : Int := if qlB s = true then 0 else 4
def i_j (l : List a_3) (i : Nat) : Int := if nmB (l.getD i []) = true then (if l.getD i [] ∈ l.take i then 6 else 0) else 4
def a_Y (l : List a_3) (least : Nat) : Int := if l.length < least ∨ 12 < l.length then 2 else b_p (i_j l) l.length
def it0 : It := ⟨[], 0, [], 0, []⟩
def d_v (its : List It) (i : Nat) (fB cB nB eB : Bool) : Int :=
 let x := its.getD i it0
 if (fB = false ∧ x.fn ≠ 0) ∨ (cB = false ∧ x.col ≠ []) ∨ (nB = false ∧ x.num ≠ 0) ∨ (eB = false ∧ x.expr ≠ []) then 8
 else if nmB x.name = false then 4 else if x.name ∈ (its.take i).map It.name then 6 else 0
def a_F (its : List It) (least : Nat) (fB cB nB eB : Bool) (own : It → Int) : Int :=
 if its.length < least ∨ 12 < its.length then 2
 else b_p (fun i => if d_v its i fB cB nB eB = 0 then own (its.getD i it0) else d_v its i fB cB nB eB) its.length
def c_e (names : List a_3) (x : It) : Int :=
 if x.name ∈ names then 6 else if x.fn < 1 ∨ 7 < x.fn ∨ (x.fn = 1 ∧ x.col ≠ []) then 8 else if x.fn ≠ 1 then c_f x.col else 0
def e_l (f : Int) : Bool × Bool × Bool :=
 if f = 1 ∨ f = 8 ∨ f = 9 then (true, false, false) else if f = 3 ∨ f = 12 ∨ f = 13 then (true, true, false) else if f = 10 ∨ f = 11 then (true, true, true) else (false, false, false)
def b_I (x : It) : Int :=
 if (e_l x.fn).1 = false ∨ ((e_l x.fn).2.1 = false ∧ x.col ≠ []) ∨ ((e_l x.fn).2.2 = false ∧ x.num ≠ 0) then 8
 else if (e_l x.fn).2.1 = true ∧ nmB x.col = false then 4
 else if (e_l x.fn).2.2 = true ∧ (x.num < 1 ∨ 4096 < x.num) then 1 else 0
def b_8 (a b : Int) : Int := if a = 0 then b else a
def g_d (s : Stp) : Int :=
 b_8 (d_3 s.src) (b_8 (a_Y s.names 1) (b_8 (a_Y s.others 1) (b_8 (if s.names.length = s.others.length then 0 else 8) (a_F s.items 0 false true false false fun x => c_f x.col))))
def f_W (s : Stp) : Int :=
 b_8 (a_Y s.names 0) (if s.names.length + s.items.length = 0 then 2 else a_F s.items 0 true true false false (c_e s.names))
def e_O (s : Stp) : Int := b_8 (a_Y s.names 0) (b_8 (a_Y s.others 0) (a_F s.items 1 true true true false b_I))
def a_W (op : Int) (src : a_3) (ln lo li lc : Nat) : Bool :=
 (!(op == 0 || (decide (4 ≤ op) && decide (op ≤ 9))) && src != []) || (!((decide (4 ≤ op) && decide (op ≤ 7)) || op == 3 || op == 11 || op == 12) && ln != 0) || (!((decide (4 ≤ op) && decide (op ≤ 7)) || op == 12) && lo != 0) || (!(op == 2 || op == 4 || op == 5 || op == 11 || op == 12) && li != 0) || (op != 1 && lc != 0)
def opS (s : Stp) : Int :=
 if s.op = 0 then g_X s.src else if s.op = 1 then a_x s.cond else if s.op = 2 then a_F s.items 1 false false false true (fun x => a_x x.expr)
 else if s.op = 3 then a_Y s.names 1 else if s.op = 4 ∨ s.op = 5 ∨ s.op = 6 ∨ s.op = 7 then g_d s else if s.op = 8 ∨ s.op = 9 then d_3 s.src
 else if s.op = 11 then f_W s else if s.op = 12 then e_O s else 0
def d_0 (s : Stp) : Int := if s.op < 0 ∨ 12 < s.op ∨ a_W s.op s.src s.names.length s.others.length s.items.length s.cond.length = true then 8 else opS s
def j_J : Stp := ⟨0, [], [], [], [], []⟩
def a_E (ss : List Stp) : Int :=
 if ss.length < 1 ∨ 16 < ss.length then 2
 else b_p (fun i => if d_0 (ss.getD i j_J) = 0 then (if ((ss.getD i j_J).op = 0 ↔ i = 0) then 0 else 8) else d_0 (ss.getD i j_J)) ss.length
inductive PR where
 | ok (es : List Nd) (i : Nat)
 | err (e : Int) (i : Nat)
 | out
def PR.bind (r : PR) (k : List Nd → Nat → PR) : PR := match r with
 | .ok es i => k es i
 | .err e i => .err e i
 | .out => .out
def tk (ts : List Tok) (i : Nat) : Tok := ts.getD i w_P
def a_9 (t : Tok) (x : a_3) : Bool := t.kind == 5 && t.text == x
def c_k (t : Tok) (x : a_3) : Bool := t.kind == 1 && t.text == x
def j_j : a_3 := [110, 111, 116]
def d_K : a_3 := [110, 117, 108, 108]
def d_I : a_3 := [116, 114, 117, 101]
def c_o : a_3 := [102, 97, 108, 115, 101]
def m_0 : a_3 := [100, 97, 121]
def c_r (l : Nat) (t : Tok) : Option Int :=
 if l = 0 then (if c_k t [111, 114] = true then some 15 else none)
 else if l = 1 then (if c_k t [97, 110, 100] = true then some 14 else none)
 else if l = 4 then (if a_9 t [43, 43] = true then some 9 else none)
 else if l = 5 then (if a_9 t [43] = true then some 4 else if a_9 t [45] = true then some 5 else none)
 else if l = 6 then (if a_9 t [42] = true then some 6 else if a_9 t [47] = true then some 7 else if a_9 t [37] = true then some 8 else none)
 else none
def i_o (t : Tok) : Option (Int × Bool) :=
 if a_9 t [61] = true then some (10, false) else if a_9 t [33, 61] = true then some (11, false) else if a_9 t [60] = true then some (12, false)
 else if a_9 t [60, 61] = true then some (13, false) else if a_9 t [62] = true then some (12, true) else if a_9 t [62, 61] = true then some (13, true) else none
def d_4 (ts : List Tok) (i : Nat) : Bool :=
 if (tk ts i).kind = 2 ∨ (tk ts i).kind = 3 ∨ (tk ts i).kind = 4 then true
 else if (tk ts i).kind = 1 then
  if (tk ts i).text = d_K ∨ (tk ts i).text = d_I ∨ (tk ts i).text = c_o then true
  else !a_J.contains (tk ts i).text && (a_9 (tk ts (i + 1)) [40] || a_p 24 (tk ts i).text)
 else a_9 (tk ts i) [45] || a_9 (tk ts i) [40]
def c_3 (o : Int) : Nd := ⟨o, vl0, [], 0⟩
def cNd (k n : Int) (x : a_3) : Nd := ⟨0, ⟨k, n, x⟩, [], 0⟩
def f_c (x : a_3) : Option (Int × Nat) :=
 if x = [105, 102] then some (17, 3) else if x = [99, 111, 97, 108, 101, 115, 99, 101] then some (18, 2) else if x = [105, 115, 110, 117, 108, 108] then some (16, 1)
 else if x = [108, 101, 110, 103, 116, 104] then some (19, 1) else none
def h_3 (x : a_3) (n : Nat) : Option Nd := match f_c x with
 | some (o, a) => if n = a then some (c_3 o) else none
 | none => if n ≤ 8 then some ⟨21, vl0, x, n⟩ else none
def g_g (x : a_3) (es : List Nd) (n i : Nat) : PR := match h_3 x n with
 | some nd => .ok (es ++ [nd]) (i + 1)
 | none => .err 3 i
def b_j (p : Nat → PR) (op : Tok → Option Int) (ts : List Tok) : Nat → List Nd → Nat → PR
 | 0, _, _ => .out
 | G + 1, es, i => match op (tk ts i) with
  | none => .ok es i
  | some o => (p (i + 1)).bind fun fs j => b_j p op ts G (es ++ fs ++ [c_3 o]) j
def d_f (p : Nat → PR) (x : a_3) (ts : List Tok) : Nat → List Nd → Nat → Nat → PR
 | 0, _, _, _ => .out
 | G + 1, es, n, i => (p i).bind fun fs j =>
  if a_9 (tk ts j) [44] = true then d_f p x ts G (es ++ fs) (n + 1) (j + 1)
  else if a_9 (tk ts j) [41] = true then g_g x (es ++ fs) (n + 1) j else .err 3 j
def k_O (ts : List Tok) (es : List Nd) (j : Nat) : PR :=
 if a_9 (tk ts j) [44] = true then
  if (tk ts (j + 1)).kind = 1 ∧ a_J.contains (tk ts (j + 1)).text = false then
   if a_9 (tk ts (j + 2)) [41] = true then .ok (es ++ [⟨20, vl0, (tk ts (j + 1)).text, 0⟩]) (j + 3) else .err 3 (j + 2)
  else .err 3 (j + 1)
 else .err 3 j
def s_L (q : Nat → Nat → Nat → PR) (ts : List Tok) (i d : Nat) : PR :=
 if c_k (tk ts i) j_j = true then
  if 256 < d then .err 2 i else (q 2 (i + 1) (d + 1)).bind fun es j => .ok (es ++ [c_3 2]) j
 else q 3 i d
def s_v (q : Nat → Nat → Nat → PR) (ts : List Tok) (i d : Nat) : PR :=
 (q 4 i d).bind fun es j => match i_o (tk ts j) with
  | none => .ok es j
  | some (o, b) => (q 4 (j + 1) d).bind fun fs m => .ok ((if b = true then fs ++ es else es ++ fs) ++ [c_3 o]) m
def unP (q : Nat → Nat → Nat → PR) (ts : List Tok) (i d : Nat) : PR :=
 if d_4 ts i = false then .err 3 i
 else if 256 < d then .err 2 i
 else if a_9 (tk ts i) [45] = true then
  if (tk ts (i + 1)).kind = 2 then .ok [cNd 2 (-(tk ts (i + 1)).num) []] (i + 2)
  else (q 7 (i + 1) (d + 1)).bind fun es j => .ok (es ++ [c_3 3]) j
 else q 8 i d
def e_G (q : Nat → Nat → Nat → PR) (ts : List Tok) (x : a_3) (i d : Nat) : PR :=
 if x = m_0 then
  if a_9 (tk ts i) [41] = true then .err 3 i else (q 0 i d).bind (k_O ts)
 else if a_9 (tk ts i) [41] = true then g_g x [] 0 i
 else d_f (fun j => q 0 j d) x ts ts.length [] 0 i
def p_3 (q : Nat → Nat → Nat → PR) (ts : List Tok) (i d : Nat) : PR :=
 if (tk ts i).text = d_K then .ok [cNd 0 0 []] (i + 1)
 else if (tk ts i).text = d_I then .ok [cNd 1 1 []] (i + 1)
 else if (tk ts i).text = c_o then .ok [cNd 1 0 []] (i + 1)
 else if a_9 (tk ts (i + 1)) [40] = true then e_G q ts (tk ts i).text (i + 2) (d + 1)
 else .ok [⟨1, vl0, (tk ts i).text, 0⟩] (i + 1)
def p_j (q : Nat → Nat → Nat → PR) (ts : List Tok) (i d : Nat) : PR :=
 if (tk ts i).kind = 2 then .ok [cNd 2 (tk ts i).num []] (i + 1)
 else if (tk ts i).kind = 3 then .ok [cNd 3 0 (tk ts i).text] (i + 1)
 else if (tk ts i).kind = 4 then .ok [cNd 4 (tk ts i).num []] (i + 1)
 else if (tk ts i).kind = 5 then (q 0 (i + 1) (d + 1)).bind fun es j => if a_9 (tk ts j) [41] = true then .ok es (j + 1) else .err 3 j
 else p_3 q ts i d
def u_R (q : Nat → Nat → Nat → PR) (ts : List Tok) (l i d : Nat) : PR :=
 (q (l + 1) i d).bind (b_j (fun j => q (l + 1) j d) (c_r l) ts ts.length)
def prs (ts : List Tok) : Nat → Nat → Nat → Nat → PR
 | 0, _, _, _ => .out
 | F + 1, l, i, d =>
  if l = 2 then s_L (fun l i d => prs ts F l i d) ts i d
  else if l = 3 then s_v (fun l i d => prs ts F l i d) ts i d
  else if l = 7 then unP (fun l i d => prs ts F l i d) ts i d
  else if l = 8 then p_j (fun l i d => prs ts F l i d) ts i d
  else u_R (fun l i d => prs ts F l i d) ts l i d
def e_Z (ts : List Tok) (b : Nat) : PR → Prop
 | .ok es j => b < j ∧ j < ts.length ∧ es.length ≤ j - b ∧ b_9 es
 | .err e j => j < ts.length ∧ (e = 2 ∨ e = 3)
 | .out => True
theorem l_n {ts : List Tok} {i : Nat} (h : i < ts.length) : tk ts i = ts[i] := by
 unfold tk
 rw [List.getD_eq_getElem?_getD, List.getElem?_eq_getElem h, Option.getD_some]
theorem b_0 {ts : List Tok} (hv : a_O ts = true) {i : Nat} (h : i < ts.length) (hk : (tk ts i).kind ≠ 0) : i + 1 < ts.length := by
 have := ((c_q ts).1 hv).2 i h
 rw [l_n h] at hk
 rcases Nat.lt_or_ge (i + 1) ts.length with h1 | h1
 ·exact h1
 ·exact absurd (this.2.2 o_) hk
theorem e_P {t : Tok} {x : a_3} (h : a_9 t x = true) : t.kind = 5 := by
 unfold a_9 at h; simp at h; exact h.1
theorem c_y {t : Tok} {x : a_3} (h : a_9 t x = true) : t.text = x := by
 unfold a_9 at h; simp at h; exact h.2
theorem l_9 {t : Tok} {x : a_3} (h : c_k t x = true) : t.kind = 1 := by
 unfold c_k at h; simp at h; exact h.1
theorem a_T {ts : List Tok} (hv : a_O ts = true) {i : Nat} (h : i < ts.length) {x : a_3} (hs : a_9 (tk ts i) x = true) : i + 1 < ts.length :=
 b_0 hv h (by rw [e_P hs]; decide)
theorem d_Q {ts : List Tok} (hv : a_O ts = true) {i : Nat} (h : i < ts.length) {x : a_3} (hs : c_k (tk ts i) x = true) : i + 1 < ts.length :=
 b_0 hv h (by rw [l_9 hs]; decide)
theorem k_8 {l : Nat} {t : Tok} {o : Int} (h : c_r l t = some o) : t.kind ≠ 0 := by
 unfold c_r at h
 intro h0
 have h1 : ∀ x, c_k t x = false := fun x => by unfold c_k; rw [h0]; rfl
 have h2 : ∀ x, a_9 t x = false := fun x => by unfold a_9; rw [h0]; rfl
 simp [h1, h2] at h
theorem i_P {t : Tok} {o : Int × Bool} (h : i_o t = some o) : t.kind ≠ 0 := by
 unfold i_o at h
 intro h0
 have h2 : ∀ x, a_9 t x = false := fun x => by unfold a_9; rw [h0]; rfl
 simp [h2] at h
theorem d_j {ts : List Tok} {i : Nat} (h : d_4 ts i = true) : (tk ts i).kind ≠ 0 := by
 intro h0
 unfold d_4 at h
 have h2 : ∀ x, a_9 (tk ts i) x = false := fun x => by unfold a_9; rw [h0]; rfl
 simp [h0, h2] at h
theorem e_7 {x : a_3} (h : a_K 24 x = true) : x.length ≤ 49 := by
 unfold a_K at h
 split at h
 ·unfold a_p at h
  simp only [Bool.and_eq_true, decide_eq_true_eq] at h
  have h1 := h.1.1
  have h2 := h.2.1
  rw [List.length_take] at h1
  rw [List.length_drop] at h2
  omega
 ·unfold a_p at h
  simp only [Bool.and_eq_true, decide_eq_true_eq] at h
  omega
theorem r_R {ts : List Tok} (hv : a_O ts = true) {i : Nat} (h : i < ts.length) : (tk ts i).ok = true := by
 rw [l_n h]; exact (((c_q ts).1 hv).2 i h).1
theorem j_t {ts : List Tok} (hv : a_O ts = true) {i : Nat} (h : i < ts.length) (hk : (tk ts i).kind = 1) : a_K 24 (tk ts i).text = true := by
 have := r_R hv h
 unfold Tok.ok at this
 rw [hk, j_7] at this
 simp only [Bool.and_eq_true] at this
 exact this.1
theorem e_Z.bind {ts : List Tok} {b b2 : Nat} {r : PR} {k : List Nd → Nat → PR} (h : e_Z ts b2 r) (hk : ∀ es j, b2 < j → j < ts.length → es.length ≤ j - b2 → b_9 es → e_Z ts b (k es j)) : e_Z ts b (r.bind k) := by
 cases r with
 | ok es j => exact hk es j h.1 h.2.1 h.2.2.1 h.2.2.2
 | err e j => exact h
 | out => trivial
theorem k_B : b_9 [] := fun n hn => absurd hn s_
theorem b_Y {a b : List Nd} (h : b_9 a) (k : b_9 b) : b_9 (a ++ b) := fun n hn => by
 rcases List.mem_append.1 hn with hn | hn
 ·exact h n hn
 ·exact k n hn
theorem e_p {n : Nd} (h : n.name.length ≤ maxLen) : b_9 [n] := fun m hm => by
 rw [List.mem_singleton] at hm; subst hm; exact h
theorem f_u (o : Int) : b_9 [c_3 o] := e_p (Nat.zero_le _)
theorem f_j (k n : Int) (x : a_3) : b_9 [cNd k n x] := e_p (Nat.zero_le _)
theorem l_h {x : a_3} {n : Nat} {nd : Nd} (hx : x.length ≤ maxLen) (h : h_3 x n = some nd) : b_9 [nd] := by
 unfold h_3 at h
 split at h
 ·split at h
  ·injection h with h; subst h; exact f_u _
  ·cases h
 ·split at h
  ·injection h with h; subst h; exact e_p hx
  ·cases h
theorem i_4 {ts : List Tok} (hv : a_O ts = true) {p : Nat → PR} {l : Nat} (hp : ∀ j, j < ts.length → e_Z ts j (p j)) (b : Nat) : ∀ G es i, b < i → i < ts.length → es.length ≤ i - b → b_9 es → e_Z ts b (b_j p (c_r l) ts G es i)
 | 0, es, i, _, _, _, _ => trivial
 | G + 1, es, i, hb, hi, hl, hn => by
  unfold b_j
  split
  ·exact ⟨hb, hi, hl, hn⟩
  ·rename_i o ho
   have h1 := b_0 hv hi (k_8 ho); refine (hp (i + 1) h1).bind fun fs j hj hjl hfl hfn => ?_; exact i_4 hv hp b G _ j o_ hjl (by simp only [List.length_append, List.length_singleton]; omega) (b_Y (b_Y hn hfn) (f_u o))
theorem k_e {ts : List Tok} (hv : a_O ts = true) {x : a_3} (hx : x.length ≤ maxLen) {b : Nat} {es : List Nd} {n i : Nat} (hb : b < i) (hi : i < ts.length) (hs : a_9 (tk ts i) [41] = true) (hl : es.length ≤ i - b) (hn : b_9 es) : e_Z ts b (g_g x es n i) := by
 unfold g_g
 split
 ·rename_i nd hnd
  exact ⟨o_, a_T hv hi hs, by simp only [List.length_append, List.length_singleton]; omega, b_Y hn (l_h hx hnd)⟩
 ·exact ⟨hi, .inr rfl⟩
theorem i_U {ts : List Tok} (hv : a_O ts = true) {x : a_3} (hx : x.length ≤ maxLen) {p : Nat → PR} (hp : ∀ j, j < ts.length → e_Z ts j (p j)) (b : Nat) : ∀ G es n i, b < i → i < ts.length → es.length ≤ i - b → b_9 es → e_Z ts b (d_f p x ts G es n i)
 | 0, es, n, i, _, _, _, _ => trivial
 | G + 1, es, n, i, hb, hi, hl, hn => by
  unfold d_f
  refine (hp i hi).bind fun fs j hj hjl hfl hfn => ?_
  have hl2 : (es ++ fs).length ≤ j - b := by rw [List.length_append]; omega
  split
  ·rename_i hs
   exact i_U hv hx hp b G _ _ (j + 1) o_ (a_T hv hjl hs) o_ (b_Y hn hfn)
  ·split
   ·rename_i hs
    exact k_e hv hx o_ hjl hs hl2 (b_Y hn hfn)
   ·exact ⟨hjl, .inr rfl⟩
theorem o_N {ts : List Tok} (hv : a_O ts = true) {q : Nat → Nat → Nat → PR} {i d : Nat} (ih : ∀ l i d, i < ts.length → (l = 8 → d_4 ts i = true) → e_Z ts i (q l i d)) (hi : i < ts.length) : e_Z ts i (s_L q ts i d) := by
 unfold s_L
 split
 ·rename_i hw
  split
  ·exact ⟨hi, .inl rfl⟩
  ·refine (ih 2 (i + 1) (d + 1) (d_Q hv hi hw) o_).bind fun es j hj hjl hel hen => ?_
   exact ⟨o_, hjl, by simp only [List.length_append, List.length_singleton]; omega, b_Y hen (f_u 2)⟩
 ·exact ih 3 i d hi o_
theorem n_8 {ts : List Tok} (hv : a_O ts = true) {q : Nat → Nat → Nat → PR} {i d : Nat} (ih : ∀ l i d, i < ts.length → (l = 8 → d_4 ts i = true) → e_Z ts i (q l i d)) (hi : i < ts.length) : e_Z ts i (s_v q ts i d) := by
 unfold s_v
 refine (ih 4 i d hi o_).bind fun es j hj hjl hel hen => ?_
 split
 ·exact ⟨hj, hjl, hel, hen⟩
 ·rename_i o b ho
  have h1 := b_0 hv hjl (i_P ho)
  refine (ih 4 (j + 1) d h1 o_).bind fun fs m hm hml hfl hfn => ?_
  refine ⟨o_, hml, ?_, b_Y ?_ (f_u o)⟩
  ·split <;> simp only [List.length_append, List.length_singleton] <;> omega
  ·split
   ·exact b_Y hfn hen
   ·exact b_Y hen hfn
theorem p_v {ts : List Tok} (hv : a_O ts = true) {q : Nat → Nat → Nat → PR} {i d : Nat} (ih : ∀ l i d, i < ts.length → (l = 8 → d_4 ts i = true) → e_Z ts i (q l i d)) (hi : i < ts.length) : e_Z ts i (unP q ts i d) := by
 unfold unP
 split
 ·exact ⟨hi, .inr rfl⟩
 rename_i hb
 have hb : d_4 ts i = true := by simpa using hb
 have h1 := b_0 hv hi (d_j hb)
 split
 ·exact ⟨hi, .inl rfl⟩
 split
 ·split
  ·rename_i h2
   have h3 := b_0 hv h1 (by rw [h2]; decide); exact ⟨o_, h3, s_, f_j _ _ _⟩
  ·refine (ih 7 (i + 1) (d + 1) h1 o_).bind fun es j hj hjl hel hen => ?_
   exact ⟨o_, hjl, by simp only [List.length_append, List.length_singleton]; omega, b_Y hen (f_u 3)⟩
 ·exact ih 8 i d hi (fun _ => hb)
theorem o_m {ts : List Tok} (hv : a_O ts = true) {b j : Nat} {es : List Nd} (hj : b < j) (hjl : j < ts.length) (hel : es.length ≤ j - b) (hen : b_9 es) : e_Z ts b (k_O ts es j) := by
 unfold k_O
 split
 ·rename_i hc
  have h3 := a_T hv hjl hc
  split
  ·rename_i hk
   have h4 := b_0 hv h3 (by rw [hk.1]; decide)
   split
   ·rename_i hs
    have h5 := a_T hv h4 hs; refine ⟨o_, h5, by simp only [List.length_append, List.length_singleton]; omega, b_Y hen (e_p ?_)⟩; have := e_7 (j_t hv h3 hk.1)
    show (tk ts (j + 1)).text.length ≤ maxLen
    unfold maxLen; omega
   ·exact ⟨h4, .inr rfl⟩
  ·exact ⟨h3, .inr rfl⟩
 ·exact ⟨hjl, .inr rfl⟩
theorem e_Z.mono {ts : List Tok} {b b2 : Nat} {r : PR} (h : e_Z ts b2 r) (hb : b ≤ b2) : e_Z ts b r := by
 cases r with
 | ok es j => exact ⟨Nat.lt_of_le_of_lt hb h.1, h.2.1, Nat.le_trans h.2.2.1 o_, h.2.2.2⟩
 | err e j => exact h
 | out => trivial
theorem m_M {ts : List Tok} (hv : a_O ts = true) {q : Nat → Nat → Nat → PR} {x : a_3} (hx : x.length ≤ maxLen) {b i d : Nat} (ih : ∀ l i d, i < ts.length → (l = 8 → d_4 ts i = true) → e_Z ts i (q l i d)) (hi : i < ts.length) (hb : b < i) : e_Z ts b (e_G q ts x i d) := by
 unfold e_G
 split
 ·split
  ·exact ⟨hi, .inr rfl⟩
  ·exact (ih 0 i d hi o_).bind fun es j hj hjl hel hen => o_m hv o_ hjl o_ hen
 ·split
  ·rename_i hs
   exact k_e hv hx hb hi hs s_ k_B
  ·exact i_U hv hx (fun j hj => ih 0 j d hj o_) b _ _ _ _ hb hi s_ k_B
theorem j_f {ts : List Tok} {i : Nat} (hb : d_4 ts i = true) (k2 : ¬ (tk ts i).kind = 2) (k3 : ¬ (tk ts i).kind = 3) (k4 : ¬ (tk ts i).kind = 4) (k5 : ¬ (tk ts i).kind = 5) : (tk ts i).kind = 1 := by
 by_cases e : (tk ts i).kind = 1
 ·exact e
 ·exfalso
  unfold d_4 at hb
  rw [if_neg (fun h => h.elim k2 (fun h => h.elim k3 k4)), if_neg e] at hb
  have h2 : ∀ x, a_9 (tk ts i) x = false := fun x => by unfold a_9; simp [k5]
  simp [h2] at hb
theorem n_W {ts : List Tok} (hv : a_O ts = true) {q : Nat → Nat → Nat → PR} {i d : Nat} (ih : ∀ l i d, i < ts.length → (l = 8 → d_4 ts i = true) → e_Z ts i (q l i d)) (hi : i < ts.length) (hk : (tk ts i).kind = 1) : e_Z ts i (p_3 q ts i d) := by
 have h1 := b_0 hv hi (by rw [hk]; decide)
 have one : ∀ nd : Nd, b_9 [nd] → e_Z ts i (.ok [nd] (i + 1)) := fun nd hn => ⟨o_, h1, s_, hn⟩
 have hnm : (tk ts i).text.length ≤ maxLen := by
  have := e_7 (j_t hv hi hk)
  unfold maxLen; omega
 unfold p_3
 split
 ·exact one _ (f_j _ _ _)
 split
 ·exact one _ (f_j _ _ _)
 split
 ·exact one _ (f_j _ _ _)
 split
 ·rename_i hp
  exact m_M hv hnm ih (a_T hv h1 hp) o_
 ·exact one _ (e_p hnm)
theorem m_E {ts : List Tok} (hv : a_O ts = true) {q : Nat → Nat → Nat → PR} {i d : Nat} (ih : ∀ l i d, i < ts.length → (l = 8 → d_4 ts i = true) → e_Z ts i (q l i d)) (hi : i < ts.length) (hb : d_4 ts i = true) : e_Z ts i (p_j q ts i d) := by
 have h1 := b_0 hv hi (d_j hb)
 have one : ∀ nd : Nd, b_9 [nd] → e_Z ts i (.ok [nd] (i + 1)) := fun nd hn => ⟨o_, h1, s_, hn⟩
 unfold p_j
 split
 ·exact one _ (f_j _ _ _)
 split
 ·exact one _ (f_j _ _ _)
 split
 ·exact one _ (f_j _ _ _)
 split
 ·refine (ih 0 (i + 1) (d + 1) h1 o_).bind fun es j hj hjl hel hen => ?_
  split
  ·rename_i hs
   exact ⟨o_, a_T hv hjl hs, o_, hen⟩
  ·exact ⟨hjl, .inr rfl⟩
 rename_i k2 k3 k4 k5
 exact n_W hv ih hi (j_f hb k2 k3 k4 k5)
theorem b_6 {ts : List Tok} (hv : a_O ts = true) : ∀ F l i d, i < ts.length → (l = 8 → d_4 ts i = true) → e_Z ts i (prs ts F l i d)
 | 0, l, i, d, _, _ => trivial
 | F + 1, l, i, d, hi, h8 => by
  have ih := b_6 hv F
  unfold prs
  split
  ·exact o_N hv ih hi
  split
  ·exact n_8 hv ih hi
  split
  ·exact p_v hv ih hi
  split
  ·rename_i e; exact m_E hv ih hi (h8 e)
  ·rename_i n2 n3 n7 n8
   refine (ih (l + 1) i d hi (fun e => absurd e o_)).bind fun es j hj hjl hel hen => ?_; exact i_4 hv (fun j hj => ih (l + 1) j d hj (fun e => absurd e o_)) i _ _ _ hj hjl hel hen
theorem e_1 {r : PR} {k : List Nd → Nat → PR} (h : r ≠ .out) (hk : ∀ es j, r = .ok es j → k es j ≠ .out) : r.bind k ≠ .out := by
 cases r with
 | ok es j => exact hk es j rfl
 | err e j => exact fun e => by cases e
 | out => exact absurd rfl h
theorem f_1 {es : List Nd} {j : Nat} : (PR.ok es j) ≠ .out := fun e => by cases e
theorem f_8 {e : Int} {j : Nat} : (PR.err e j) ≠ .out := fun e => by cases e
theorem i_3 {x : a_3} {es : List Nd} {n i : Nat} : g_g x es n i ≠ .out := by
 unfold g_g; split
 ·exact f_1
 ·exact f_8
theorem r_o {ts : List Tok} {es : List Nd} {j : Nat} : k_O ts es j ≠ .out := by
 unfold k_O
 split
 ·split
  ·split
   ·exact f_1
   ·exact f_8
  ·exact f_8
 ·exact f_8
theorem e_Z.ok {ts : List Tok} {b : Nat} {r : PR} (h : e_Z ts b r) {es : List Nd} {j : Nat} (e : r = .ok es j) : b < j ∧ j < ts.length := by
 subst e; exact ⟨h.1, h.2.1⟩
theorem k_2 {ts : List Tok} (hv : a_O ts = true) {p : Nat → PR} {l : Nat} (hp : ∀ j, j < ts.length → e_Z ts j (p j)) : ∀ G es i, i < ts.length → ts.length < G + i → (∀ j, i < j → j < ts.length → p j ≠ .out) → b_j p (c_r l) ts G es i ≠ .out
 | 0, es, i, hi, hg, _ => by omega
 | G + 1, es, i, hi, hg, h => by
  unfold b_j
  split
  ·exact f_1
  ·rename_i o ho
   have h1 := b_0 hv hi (k_8 ho); refine e_1 (h _ o_ h1) fun fs j e => ?_; have hj := (hp _ h1).ok e; exact k_2 hv hp G _ j hj.2 o_ (fun m hm hml => h m o_ hml)
theorem f_v {ts : List Tok} (hv : a_O ts = true) {x : a_3} {p : Nat → PR} (hp : ∀ j, j < ts.length → e_Z ts j (p j)) : ∀ G es n i, i < ts.length → ts.length < G + i → (∀ j, i ≤ j → j < ts.length → p j ≠ .out) → d_f p x ts G es n i ≠ .out
 | 0, es, n, i, hi, hg, _ => by omega
 | G + 1, es, n, i, hi, hg, h => by
  unfold d_f
  refine e_1 (h i (l_ _) hi) fun fs j e => ?_
  have hj := (hp _ hi).ok e
  split
  ·rename_i hs
   exact f_v hv hp G _ _ (j + 1) (a_T hv hj.2 hs) o_ (fun m hm hml => h m o_ hml)
  ·split
   ·exact i_3
   ·exact f_8
theorem e_n {ts : List Tok} (hv : a_O ts = true) : ∀ F l i d, i < ts.length → l ≤ 8 → (l = 8 → d_4 ts i = true) → (ts.length - i) * 10 + (9 - l) ≤ F → prs ts F l i d ≠ .out
 | 0, l, i, d, hi, hl, _, hF => by omega
 | F + 1, l, i, d, hi, hl, h8, hF => by
  have ih := e_n hv F
  have hf := b_6 hv F
  unfold prs
  split
  ·unfold s_L
   split
   ·rename_i hw
    have h1 := d_Q hv hi hw
    split
    ·exact f_8
    ·exact e_1 (ih 2 (i + 1) (d + 1) h1 o_ (fun e => absurd e o_) o_) fun es j e => f_1
   ·exact ih 3 i d hi o_ (fun e => absurd e o_) o_
  split
  ·unfold s_v
   refine e_1 (ih 4 i d hi o_ (fun e => absurd e o_) o_) fun es j e => ?_; have hj := (hf 4 i d hi (fun e => absurd e o_)).ok e
   split
   ·exact f_1
   ·rename_i o b ho
    have h1 := b_0 hv hj.2 (i_P ho); exact e_1 (ih 4 (j + 1) d h1 o_ (fun e => absurd e o_) o_) fun es j e => f_1
  split
  ·unfold unP
   split
   ·exact f_8
   rename_i hb; have hb : d_4 ts i = true := by simpa using hb
   have h1 := b_0 hv hi (d_j hb)
   split
   ·exact f_8
   split
   ·split
    ·exact f_1
    ·exact e_1 (ih 7 (i + 1) (d + 1) h1 o_ (fun e => absurd e o_) o_) fun es j e => f_1
   ·exact ih 8 i d hi o_ (fun _ => hb) o_
  split
  ·rename_i e8
   have hb := h8 e8; have h1 := b_0 hv hi (d_j hb); unfold p_j
   split
   ·exact f_1
   split
   ·exact f_1
   split
   ·exact f_1
   split
   ·refine e_1 (ih 0 (i + 1) (d + 1) h1 o_ (fun e => absurd e o_) o_) fun es j e => ?_
    split
    ·exact f_1
    ·exact f_8
   unfold p_3
   split
   ·exact f_1
   split
   ·exact f_1
   split
   ·exact f_1
   split
   ·rename_i hp
    have h2 := a_T hv h1 hp; unfold e_G
    split
    ·split
     ·exact f_8
     ·exact e_1 (ih 0 (i + 2) (d + 1) h2 o_ (fun e => absurd e o_) o_) fun es j e => r_o
    ·split
     ·exact i_3
     ·exact f_v hv (fun j hj => hf 0 j (d + 1) hj (fun e => absurd e o_)) _ _ _ _ h2 o_ (fun j hj hjl => ih 0 j (d + 1) hjl o_ (fun e => absurd e o_) o_)
   ·exact f_1
  ·rename_i n2 n3 n7 n8
   unfold u_R; refine e_1 (ih (l + 1) i d hi o_ (fun e => absurd e o_) o_) fun es j e => ?_; have hj := (hf (l + 1) i d hi (fun e => absurd e o_)).ok e; exact k_2 hv (fun j hj => hf (l + 1) j d hj (fun e => absurd e o_)) _ _ _ hj.2 o_ (fun m hm hml => ih (l + 1) m d hml o_ (fun e => absurd e o_) o_)
end Go.Proofs.YtmbeeefkpgfgmaaGreatDoor
