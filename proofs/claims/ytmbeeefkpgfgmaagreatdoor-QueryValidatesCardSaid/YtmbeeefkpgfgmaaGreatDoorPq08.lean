/- Queries: what a step is, what lies in memory, and the plain law of its errors (query). Contracts that tell only that there is an answer: the type of a node that leans on columns or on its parts (ref9.node). The type of a node that is a day of a zone (ref9.node). The type of a node of any kind but `if` (ref9.node). The type of a node that is an if: what ref9.common says. Plain: what a valid list of nodes says of each prefix; rows of kinds. No program in sight. The type of an expression: there is an answer (ref9.Type). Contracts for building expressions: the operators over parts that the call has made (base.apply). Contracts for building expressions: base.logical. Contract: base.Unknown. Contracts for building expressions: base.numeric. Contracts for building expressions: base.Expr. Contracts that tell the answer: the types of operators (ref9.common, unary, difference, binary). -/
import Derived.Test.YtmbeeefkpgfgmaaGreatDoorPq07
import Derived.RegionTactic
import Derived.ChangeAlike
import Derived.BigRegion
import Derived.BigGuardPart
import Derived.Test.YtmbeeefkpgfgmaaGreatDoorPq06
import Derived.Deep.RegionLawGrows
import Derived.Deep.AppendLies
set_option linter.unusedVariables false
set_option linter.unusedSimpArgs false
namespace Go.Proofs.YtmbeeefkpgfgmaaGreatDoor
open Go.RowKit
structure It where
  name : Bytes
  fn : Int
  col : Bytes
  num : Int
  expr : List Nd
structure Stp where
  op : Int
  src : Bytes
  names : List Bytes
  others : List Bytes
  items : List It
  cond : List Nd
abbrev itV (x : It) (A : Option Addr) (c : Nat) : Value := .agg #[str x.name, .int .i64 x.fn, str x.col, .int .i64 x.num, .slice A x.expr.length c]
structure Adr where
  nA : Option Addr
  nC : Nat
  oA : Option Addr
  oC : Nat
  iA : Option Addr
  iC : Nat
  cA : Option Addr
  cC : Nat
def Stp.cells (s : Stp) (a : Adr) : List Value := [.int .i64 s.op, str s.src, .slice a.nA s.names.length a.nC, .slice a.oA s.others.length a.oC, .slice a.iA s.items.length a.iC, .slice a.cA s.cond.length a.cC]
abbrev Stp.agg (s : Stp) (a : Adr) : Value := .agg #[.int .i64 s.op, str s.src, .slice a.nA s.names.length a.nC, .slice a.oA s.others.length a.oC, .slice a.iA s.items.length a.iC, .slice a.cA s.cond.length a.cC]
def It.ok (x : It) : Prop := NamesOk x.expr ∧ x.expr.length ≤ 1000000
structure Stp.ok (s : Stp) : Prop where
  src : s.src.length ≤ maxLen
  names : s.names.length ≤ 1000000
  others : s.others.length ≤ 1000000
  items : s.items.length ≤ 1000000
  item : ∀ x ∈ s.items, x.ok
  cond : s.cond.length ≤ 1000000
  condN : NamesOk s.cond
def ItAt (w : World) (g off : Nat) (x : It) : Prop :=
  w.cell? ⟨g, off, none⟩ = some (str x.name) ∧ w.cell? ⟨g, off + 1, none⟩ = some (.int .i64 x.fn) ∧ w.cell? ⟨g, off + 2, none⟩ = some (str x.col) ∧ w.cell? ⟨g, off + 3, none⟩ = some (.int .i64 x.num) ∧
    ∃ (A : Option Addr) (c : Nat), w.cell? ⟨g, off + 4, none⟩ = some (.slice A x.expr.length c) ∧ NdsAt w A x.expr
def ItsAt (w : World) (A : Option Addr) (its : List It) : Prop :=
  its = [] ∨ ∃ g off, A = some ⟨g, off, none⟩ ∧ g < w.heap.size ∧ ∀ i (h : i < its.length), ItAt w g (off + i * 5) its[i]
structure Stp.At (w : World) (s : Stp) (a : Adr) : Prop where
  names : StrsAt w a.nA s.names
  others : StrsAt w a.oA s.others
  items : ItsAt w a.iA s.items
  cond : NdsAt w a.cA s.cond
  cn : s.names.length ≤ a.nC
  co : s.others.length ≤ a.oC
  ci : s.items.length ≤ a.iC
def StpAt (w : World) (g off : Nat) (s : Stp) : Prop :=
  ∃ a : Adr, s.At w a ∧ w.cell? ⟨g, off, none⟩ = some (.int .i64 s.op) ∧ w.cell? ⟨g, off + 1, none⟩ = some (str s.src) ∧ w.cell? ⟨g, off + 2, none⟩ = some (.slice a.nA s.names.length a.nC) ∧ w.cell? ⟨g, off + 3, none⟩ = some (.slice a.oA s.others.length a.oC) ∧ w.cell? ⟨g, off + 4, none⟩ = some (.slice a.iA s.items.length a.iC) ∧ w.cell? ⟨g, off + 5, none⟩ = some (.slice a.cA s.cond.length a.cC)
def StpsAt (w : World) (A : Option Addr) (ss : List Stp) : Prop :=
  ss = [] ∨ ∃ g off, A = some ⟨g, off, none⟩ ∧ g < w.heap.size ∧ ∀ i (h : i < ss.length), StpAt w g (off + i * 6) ss[i]
theorem ItAt.below {w w' : World} {g off : Nat} {x : It} (h : ItAt w g off x) (hg : g < w.heap.size) (hb : Below w.heap.size w w') : ItAt w' g off x := by
  obtain ⟨h0, h1, h2, h3, A, c, h4, hn⟩ := h
  exact ⟨(hb.cell (p := ⟨g, _, none⟩) hg).trans h0, (hb.cell (p := ⟨g, _, none⟩) hg).trans h1, (hb.cell (p := ⟨g, _, none⟩) hg).trans h2, (hb.cell (p := ⟨g, _, none⟩) hg).trans h3, A, c, (hb.cell (p := ⟨g, _, none⟩) hg).trans h4, hn.below hb⟩
theorem ItsAt.below {w w' : World} {A : Option Addr} {its : List It} (h : ItsAt w A its) (hb : Below w.heap.size w w') : ItsAt w' A its := by
  rcases h with h | ⟨g, off, hA, hg, hc⟩
  · exact .inl h
  · exact .inr ⟨g, off, hA, Nat.lt_of_lt_of_le hg hb.size, fun i hi => (hc i hi).below hg hb⟩
theorem Stp.At.below {w w' : World} {s : Stp} {a : Adr} (h : s.At w a) (hb : Below w.heap.size w w') : s.At w' a :=
  ⟨h.names.below hb, h.others.below hb, h.items.below hb, h.cond.below hb, h.cn, h.co, h.ci⟩
theorem StpAt.below {w w' : World} {g off : Nat} {s : Stp} (h : StpAt w g off s) (hg : g < w.heap.size) (hb : Below w.heap.size w w') : StpAt w' g off s := by
  obtain ⟨a, ha, h0, h1, h2, h3, h4, h5⟩ := h
  exact ⟨a, ha.below hb, (hb.cell (p := ⟨g, _, none⟩) hg).trans h0, (hb.cell (p := ⟨g, _, none⟩) hg).trans h1, (hb.cell (p := ⟨g, _, none⟩) hg).trans h2, (hb.cell (p := ⟨g, _, none⟩) hg).trans h3, (hb.cell (p := ⟨g, _, none⟩) hg).trans h4, (hb.cell (p := ⟨g, _, none⟩) hg).trans h5⟩
theorem StpsAt.below {w w' : World} {A : Option Addr} {ss : List Stp} (h : StpsAt w A ss) (hb : Below w.heap.size w w') : StpsAt w' A ss := by
  rcases h with h | ⟨g, off, hA, hg, hc⟩
  · exact .inl h
  · exact .inr ⟨g, off, hA, Nat.lt_of_lt_of_le hg hb.size, fun i hi => (hc i hi).below hg hb⟩
def nmB (s : Bytes) : Bool := isNameB 24 s && !resB s
def qlB (s : Bytes) : Bool := isQualB 24 s && !resB s
def selfB : Bytes := [115, 101, 108, 102]
def nameE (s : Bytes) : Int := if nmB s = true then 0 else 4
def readE (s : Bytes) : Int := if s = selfB then 0 else if qlB s = true then 0 else 4
def fromE (s : Bytes) : Int := if qlB s = true then 0 else 4
def listE (l : List Bytes) (i : Nat) : Int := if nmB (l.getD i []) = true then (if l.getD i [] ∈ l.take i then 6 else 0) else 4
def listS (l : List Bytes) (least : Nat) : Int := if l.length < least ∨ 12 < l.length then 2 else firstE (listE l) l.length
def it0 : It := ⟨[], 0, [], 0, []⟩
def itemE (its : List It) (i : Nat) (fB cB nB eB : Bool) : Int :=
  let x := its.getD i it0
  if (fB = false ∧ x.fn ≠ 0) ∨ (cB = false ∧ x.col ≠ []) ∨ (nB = false ∧ x.num ≠ 0) ∨ (eB = false ∧ x.expr ≠ []) then 8
  else if nmB x.name = false then 4 else if x.name ∈ (its.take i).map It.name then 6 else 0
def itemsS (its : List It) (least : Nat) (fB cB nB eB : Bool) (own : It → Int) : Int :=
  if its.length < least ∨ 12 < its.length then 2
  else firstE (fun i => if itemE its i fB cB nB eB = 0 then own (its.getD i it0) else itemE its i fB cB nB eB) its.length
def groupE (names : List Bytes) (x : It) : Int :=
  if x.name ∈ names then 6 else if x.fn < 1 ∨ 7 < x.fn ∨ (x.fn = 1 ∧ x.col ≠ []) then 8 else if x.fn ≠ 1 then nameE x.col else 0
def winB (f : Int) : Bool × Bool × Bool :=
  if f = 1 ∨ f = 8 ∨ f = 9 then (true, false, false) else if f = 3 ∨ f = 12 ∨ f = 13 then (true, true, false) else if f = 10 ∨ f = 11 then (true, true, true) else (false, false, false)
def windowE (x : It) : Int :=
  if (winB x.fn).1 = false ∨ ((winB x.fn).2.1 = false ∧ x.col ≠ []) ∨ ((winB x.fn).2.2 = false ∧ x.num ≠ 0) then 8
  else if (winB x.fn).2.1 = true ∧ nmB x.col = false then 4
  else if (winB x.fn).2.2 = true ∧ (x.num < 1 ∨ 4096 < x.num) then 1 else 0
def thenE (a b : Int) : Int := if a = 0 then b else a
def joinS (s : Stp) : Int :=
  thenE (readE s.src) (thenE (listS s.names 1) (thenE (listS s.others 1) (thenE (if s.names.length = s.others.length then 0 else 8) (itemsS s.items 0 false true false false fun x => nameE x.col))))
def groupS (s : Stp) : Int :=
  thenE (listS s.names 0) (if s.names.length + s.items.length = 0 then 2 else itemsS s.items 0 true true false false (groupE s.names))
def windowS (s : Stp) : Int := thenE (listS s.names 0) (thenE (listS s.others 0) (itemsS s.items 1 true true true false windowE))
def unusedB (op : Int) (src : Bytes) (ln lo li lc : Nat) : Bool :=
  (!(op == 0 || (decide (4 ≤ op) && decide (op ≤ 9))) && src != []) || (!((decide (4 ≤ op) && decide (op ≤ 7)) || op == 3 || op == 11 || op == 12) && ln != 0) || (!((decide (4 ≤ op) && decide (op ≤ 7)) || op == 12) && lo != 0) || (!(op == 2 || op == 4 || op == 5 || op == 11 || op == 12) && li != 0) || (op != 1 && lc != 0)
def opS (s : Stp) : Int :=
  if s.op = 0 then fromE s.src else if s.op = 1 then validE s.cond else if s.op = 2 then itemsS s.items 1 false false false true (fun x => validE x.expr)
  else if s.op = 3 then listS s.names 1 else if s.op = 4 ∨ s.op = 5 ∨ s.op = 6 ∨ s.op = 7 then joinS s else if s.op = 8 ∨ s.op = 9 then readE s.src
  else if s.op = 11 then groupS s else if s.op = 12 then windowS s else 0
def stepS (s : Stp) : Int := if s.op < 0 ∨ 12 < s.op ∨ unusedB s.op s.src s.names.length s.others.length s.items.length s.cond.length = true then 8 else opS s
def stp0 : Stp := ⟨0, [], [], [], [], []⟩
def queryS (ss : List Stp) : Int :=
  if ss.length < 1 ∨ 16 < ss.length then 2
  else firstE (fun i => if stepS (ss.getD i stp0) = 0 then (if ((ss.getD i stp0).op = 0 ↔ i = 0) then 0 else 8) else stepS (ss.getD i stp0)) ss.length
end Go.Proofs.YtmbeeefkpgfgmaaGreatDoor
namespace Go.Proofs.YtmbeeefkpgfgmaaGreatDoor
open Go.RowKit
theorem two_boxes {w1 : World} {B : Nat} {x0 x1 y0 y1 : Value} {t1 t2 : TypeId} (h2 : w1.heap[B + 1]? = some (.cells #[x0, x1] t1)) (h3 : w1.heap[B + 1 + 1]? = some (.cells #[y0, y1] t2)) :
    (w1.cell? ⟨B + 1, 0, none⟩ = some x0 ∧ w1.cell? ⟨B + 1, 1, none⟩ = some x1 ∧ ∀ i, w1.frozen? ⟨B + 1, i, none⟩ = false) ∧
    (w1.cell? ⟨B + 1 + 1, 0, none⟩ = some y0 ∧ w1.cell? ⟨B + 1 + 1, 1, none⟩ = some y1 ∧ ∀ i, w1.frozen? ⟨B + 1 + 1, i, none⟩ = false) ∧
    (∀ a, (w1.setCell ⟨B + 1 + 1, 0, none⟩ a).cell? ⟨B + 1 + 1, 0, none⟩ = some a) ∧
    (∀ a b, ((w1.setCell ⟨B + 1 + 1, 0, none⟩ a).setCell ⟨B + 1 + 1, 1, none⟩ b).cell? ⟨B + 1 + 1, 1, none⟩ = some b) ∧
    (∀ a b c, (((w1.setCell ⟨B + 1 + 1, 0, none⟩ a).setCell ⟨B + 1 + 1, 1, none⟩ b).setCell ⟨B + 1, 0, none⟩ c).cell? ⟨B + 1, 0, none⟩ = some c) ∧
    (∀ a b c d, ((((w1.setCell ⟨B + 1 + 1, 0, none⟩ a).setCell ⟨B + 1 + 1, 1, none⟩ b).setCell ⟨B + 1, 0, none⟩ c).setCell ⟨B + 1, 1, none⟩ d).cell? ⟨B + 1, 1, none⟩ = some d) := by
  have a0 : w1.cell? ⟨B + 1, 0, none⟩ = some x0 := by rw [cell_of_heap h2]; rfl
  have a1 : w1.cell? ⟨B + 1, 1, none⟩ = some x1 := by rw [cell_of_heap h2]; rfl
  have b0 : w1.cell? ⟨B + 1 + 1, 0, none⟩ = some y0 := by rw [cell_of_heap h3]; rfl
  have b1 : w1.cell? ⟨B + 1 + 1, 1, none⟩ = some y1 := by rw [cell_of_heap h3]; rfl
  refine ⟨⟨a0, a1, fun i => free_of_heap h2 i⟩, ⟨b0, b1, fun i => free_of_heap h3 i⟩, fun a => (box2set b0 b1 a (.bool true)).1, fun a b => (box2set b0 b1 a b).2, fun a b c => ?_, fun a b c d => ?_⟩
  · exact (box2set (x := x0) (y := x1) (by rw [World.cell?_setCell_other _ _ _ _ (by simp), World.cell?_setCell_other _ _ _ _ (by simp)]; exact a0) (by rw [World.cell?_setCell_other _ _ _ _ (by simp), World.cell?_setCell_other _ _ _ _ (by simp)]; exact a1) c (.bool true)).1
  · exact (box2set (x := x0) (y := x1) (by rw [World.cell?_setCell_other _ _ _ _ (by simp), World.cell?_setCell_other _ _ _ _ (by simp)]; exact a0) (by rw [World.cell?_setCell_other _ _ _ _ (by simp), World.cell?_setCell_other _ _ _ _ (by simp)]; exact a1) c d).2
end Go.Proofs.YtmbeeefkpgfgmaaGreatDoor

namespace Go.Proofs.YtmbeeefkpgfgmaaGreatDoor
open Go.RowKit
end Go.Proofs.YtmbeeefkpgfgmaaGreatDoor

namespace Go.Proofs.YtmbeeefkpgfgmaaGreatDoor
open Go.RowKit
end Go.Proofs.YtmbeeefkpgfgmaaGreatDoor

namespace Go.Proofs.YtmbeeefkpgfgmaaGreatDoor
open Go.RowKit
end Go.Proofs.YtmbeeefkpgfgmaaGreatDoor
namespace Go.Proofs.YtmbeeefkpgfgmaaGreatDoor
open Go.RowKit
def KnL (n : Nat) (xs : List Value) : Prop := xs.length = n * 2 ∧ ∀ i, i < n → ∃ (k : Int) (b : Bool), xs[i * 2]? = some (.int .i64 k) ∧ xs[i * 2 + 1]? = some (.bool b)
theorem KnL.nil : KnL 0 [] := ⟨rfl, fun i hi => by omega⟩
theorem KnL.take {n r : Nat} {xs : List Value} (h : KnL n xs) (hr : r ≤ n) : KnL r (xs.take (r * 2)) := by
  refine ⟨by rw [List.length_take, h.1]; omega, fun i hi => ?_⟩
  obtain ⟨k, b, h1, h2⟩ := h.2 i (by omega)
  exact ⟨k, b, by rw [List.getElem?_take_of_lt (by omega)]; exact h1, by rw [List.getElem?_take_of_lt (by omega)]; exact h2⟩
theorem KnL.push {n : Nat} {xs : List Value} (h : KnL n xs) (k : Int) (b : Bool) : KnL (n + 1) (xs ++ [.int .i64 k, .bool b]) := by
  refine ⟨by rw [List.length_append, h.1]; simp; omega, fun i hi => ?_⟩
  by_cases hlt : i < n
  · obtain ⟨k, b, h1, h2⟩ := h.2 i hlt
    exact ⟨k, b, by rw [List.getElem?_append_left (by rw [h.1]; omega)]; exact h1, by rw [List.getElem?_append_left (by rw [h.1]; omega)]; exact h2⟩
  · obtain rfl : i = n := by omega
    refine ⟨k, b, ?_, ?_⟩
    · rw [List.getElem?_append_right (by rw [h.1]; omega), h.1]; simp
    · rw [List.getElem?_append_right (by rw [h.1]; omega), h.1, show i * 2 + 1 - i * 2 = 1 by omega]; rfl
theorem KnL.own {w : World} {base e n c r : Nat} {A : Option Addr} {xs : List Value} (h : w.ownsRow base e 2 (.slice A n c) n xs) (hk : KnL n xs) (hr : r ≤ n) :
    KnsAt w (if c = r then A else A.map (·.add (r * 2))) (n - r) := by
  rcases h.2 with ⟨hv, hn⟩ | ⟨g, cap, cur, hv, hg, hh, hnc, hcap, hsz, htk⟩
  · exact .inl (by omega)
  · injection hv with h1 h2 h3
    subst h1 h3
    by_cases hrn : r = n
    · exact .inl (by omega)
    rw [if_neg (by omega)]
    refine .inr ⟨g, r * 2, ?_, lt_of_heap hh, fun i hi => ?_⟩
    · cases r with
      | zero => simp [Addr.add]
      | succ m => simp [Addr.add]
    · obtain ⟨k, b, h3, h4⟩ := hk.2 (r + i) (by omega)
      refine ⟨k, b, ?_, ?_⟩
      · have hc : w.cell? ⟨g, r * 2 + i * 2, none⟩ = xs[r * 2 + i * 2]? := World.ownsRow.cellAt h (r * 2 + i * 2) (by omega)
        rw [hc, show r * 2 + i * 2 = (r + i) * 2 by omega]; exact h3
      · have hc : w.cell? ⟨g, r * 2 + i * 2 + 1, none⟩ = xs[r * 2 + i * 2 + 1]? := World.ownsRow.cellAt h (r * 2 + i * 2 + 1) (by omega)
        rw [hc, show r * 2 + i * 2 + 1 = (r + i) * 2 + 1 by omega]; exact h4
end Go.Proofs.YtmbeeefkpgfgmaaGreatDoor

namespace Go.Proofs.YtmbeeefkpgfgmaaGreatDoor
open Go.RowKit
theorem cells_2 {W : World} {B : Nat} {a b : Value} {t : TypeId} (h : W.heap[B]? = some (.cells #[a, b] t)) : ∀ (j : Nat) (u : Value), [a, b][j]? = some u → W.cell? ((⟨B, 0, none⟩ : Addr).add j) = some u := by
  intro j u hu
  have e : (⟨B, 0, none⟩ : Addr).add j = ⟨B, j, none⟩ := by unfold Addr.add; split <;> simp_all
  rw [e, cell_of_heap h]
  simpa using hu
theorem Tryz.info_kn : (Tryz.prog.info? 250).map (fun i => (i.zero, i.size, i.bytes)) = some (some (.agg #[.int .i64 0, .bool false]), 2, 16) := by kernel_rfl
end Go.Proofs.YtmbeeefkpgfgmaaGreatDoor

namespace Go.Proofs.YtmbeeefkpgfgmaaGreatDoor
open Go.RowKit
theorem lAt_nn (l : List Int) (i : Int) : 0 ≤ lAt l i := by
  unfold lAt
  split
  · omega
  · have h1 : 0 ≤ i % 65536 / (l.length : Int) := Int.ediv_nonneg (by omega) (by omega)
    omega
theorem lAt_top (l : List Int) (i : Int) : lAt l i ≤ 131072 := by
  unfold lAt
  split
  · omega
  · have h1 : i % 65536 / (l.length : Int) ≤ i % 65536 := Int.ediv_le_self _ (by omega)
    omega
theorem Good.names {cs : List Bytes} {d : Nat} {es : List Nd} (h : Good cs d es) : NamesOk es := fun n hn => by
  have := ok_name (h.oks n hn)
  unfold maxLen; omega
theorem Good.short {cs : List Bytes} {d : Nat} {es : List Nd} (h : Good cs d es) (hd : d ≤ 4) : es.length ≤ 121 := Nat.le_trans h.1 (lenB_mono (e := 4) hd)
theorem op_bin {op : Int} (h : 4 ≤ op) (h2 : op ≤ 15 ∨ op = 18) : (⟨op, vl0, [], 0⟩ : Nd).ok = true ∧ (⟨op, vl0, [], 0⟩ : Nd).ar = 2 := by
  have ha : arityN op 0 = 2 := by
    unfold arityN
    rw [if_neg (by omega), if_neg (by omega), if_neg (by omega), if_neg (by omega), if_pos (by omega)]
  refine ⟨?_, ha⟩
  show shapedN op 0 0 [] [] 0 = true
  unfold shapedN
  rw [if_neg (by omega), if_neg (by omega), if_neg (by omega), if_neg (by omega), ha]
  rfl
theorem ops_new {W : World} {t : TypeId} (os : List Opd) (h : ∀ o ∈ os, NdsAt W o.A o.es ∧ o.es ≠ [] ∧ o.es.length ≤ 10000) :
    OpsAt (W.alloc (.cells (os.map fun o => Value.slice o.A o.es.length o.c).toArray t)) W.heap.size 0 os := by
  refine ⟨by simp, fun i hi => ?_⟩
  obtain ⟨h1, h2, h3⟩ := h os[i] (List.getElem_mem hi)
  refine ⟨?_, h1.below (Below.alloc (Below.refl _ _) (Nat.le_refl _) _), h2, h3⟩
  rw [cell_of_heap (heap_alloc_new W _)]
  simp [hi]
abbrev OwnE (B : Nat) (W : World) (A : Option Addr) (es : List Nd) (c : Nat) : Prop := W.ownsRow B 116 6 (.slice A es.length c) es.length (ndCells es)
theorem own_push {B c : Nat} {W : World} {A : Option Addr} {es : List Nd} (n : Nd) (h : W.ownsRow B 116 6 (.slice A (es.length + 1) c) (es.length + 1) (ndCells es ++ n.cells)) : OwnE B W A (es ++ [n]) c := by
  have e : ndCells (es ++ [n]) = ndCells es ++ n.cells := by rw [ndCells_append]; simp [ndCells]
  show W.ownsRow B 116 6 (.slice A (es ++ [n]).length c) (es ++ [n]).length (ndCells (es ++ [n]))
  rw [e, List.length_append]; exact h
def atB : Nat → Int
  | 0 => 1000000000000
  | d + 1 => atB d / 6 - 1
theorem atB_le : ∀ d, atB d ≤ 1000000000000
  | 0 => Int.le_refl _
  | d + 1 => by have := atB_le d; unfold atB; omega
theorem atB_step {d : Nat} {x : Int} (h : x ≤ atB (d + 1)) : 6 * x + 6 ≤ atB d := by unfold atB at h; omega
end Go.Proofs.YtmbeeefkpgfgmaaGreatDoor

namespace Go.Proofs.YtmbeeefkpgfgmaaGreatDoor
open Go.RowKit
end Go.Proofs.YtmbeeefkpgfgmaaGreatDoor

namespace Go.Proofs.YtmbeeefkpgfgmaaGreatDoor
open Go.RowKit
end Go.Proofs.YtmbeeefkpgfgmaaGreatDoor

namespace Go.Proofs.YtmbeeefkpgfgmaaGreatDoor
open Go.RowKit
theorem three_zones : ∀ m : Nat, m < 3 → ∃ x : Bytes, [Value.string ⟨#[122, 48]⟩, Value.string ⟨#[122, 49]⟩, Value.string ⟨#[122, 50]⟩][m]? = some (str x) ∧ (⟨20, vl0, x, 0⟩ : Nd).ok = true
  | 0, _ => ⟨[122, 48], rfl, rfl⟩
  | 1, _ => ⟨[122, 49], rfl, rfl⟩
  | 2, _ => ⟨[122, 50], rfl, rfl⟩
  | m + 3, h => absurd h (by omega)
end Go.Proofs.YtmbeeefkpgfgmaaGreatDoor

namespace Go.Proofs.YtmbeeefkpgfgmaaGreatDoor
open Go.RowKit
end Go.Proofs.YtmbeeefkpgfgmaaGreatDoor
namespace Go.Proofs.YtmbeeefkpgfgmaaGreatDoor
open Go.RowKit
abbrev Kn := Int × Bool
def comS (x y : Kn) : Int × Bool := if x.1 = 0 then (y.1, true) else (x.1, fitK y.1 x.1)
def unS (op : Int) (x : Kn) : Kn × Bool :=
  if op = 2 then ((1, x.2), fitK x.1 1) else if op = 3 then ((2, x.2), fitK x.1 2) else if op = 16 then ((1, false), true) else if op = 19 then ((2, x.2), fitK x.1 3) else ((2, x.2), fitK x.1 4)
def difS (x y : Kn) : Kn × Bool :=
  if (x.1 = 4 ∨ x.1 = 0) ∧ y.1 = 4 then ((2, x.2 || y.2), true) else if x.1 = 4 then ((4, true), fitK y.1 2) else ((2, true), fitK x.1 2 && fitK y.1 2)
def bnS (op : Int) (x y : Kn) : Kn × Bool :=
  if op = 4 then (if x.1 = 4 then ((4, true), fitK y.1 2) else ((2, true), fitK x.1 2 && fitK y.1 2))
  else if op = 5 then difS x y
  else if op = 6 ∨ op = 7 ∨ op = 8 then ((2, true), fitK x.1 2 && fitK y.1 2)
  else if op = 9 then ((3, true), fitK x.1 3 && fitK y.1 3)
  else if op = 14 ∨ op = 15 then ((1, x.2 || y.2), fitK x.1 1 && fitK y.1 1)
  else if op = 18 then (((comS x y).1, x.2 && y.2), (comS x y).2)
  else ((1, x.2 || y.2), (comS x y).2)
abbrev kbV (r : Kn × Bool) : Value := .tuple #[.agg #[.int .i64 r.1.1, .bool r.1.2], .bool r.2]
set_option maxRecDepth 100000 in
set_option maxHeartbeats 1000000 in
theorem ref9_common_s (k1 k2 : Int) (b1 b2 : Bool) (w : World) : Calls Tryz.prog 277 #[knV k1 b1, knV k2 b2] w fun e w' => e = .returned (.tuple #[.int .i64 (comS (k1, b1) (k2, b2)).1, .bool (comS (k1, b1) (k2, b2)).2]) ∧ Below w.heap.size w w' := by
  by_cases h : k1 = 0
  · subst h
    have HE := hide (show comS (0, b1) (k2, b2) = (k2, true) from rfl)
    go_enter Tryz.func277, Tryz.ntmps277
    go_wp2
    rw [HE.out]
    refine bodyPost_ret (v := .tuple #[.int .i64 k2, .bool true]) (by simp [results, Tryz.results277, go_sem]) rfl ⟨rfl, zX⟩
  · have hb : (k1 == 0) = false := by simpa using h
    have HE := hide (show comS (k1, b1) (k2, b2) = (k1, fitK k2 k1) from by unfold comS; simp [h])
    go_enter Tryz.func277, Tryz.ntmps277
    go_wp2
    go_region_with (go_at_call 278; refine (ref9_fits_any _ _ _ _).mono ?_; rintro e w' ⟨rfl, rfl⟩)
    all_goals
      go_wp2
      rw [HE.out]
      refine bodyPost_ret (v := .tuple #[.int .i64 k1, .bool (fitK k2 k1)]) (by simp [results, Tryz.results277, go_sem]) rfl ⟨rfl, zX⟩
set_option maxRecDepth 100000 in
set_option maxHeartbeats 2000000 in
theorem ref9_unary_s (op k : Int) (b : Bool) (w : World) : Calls Tryz.prog 280 #[.int .i64 op, knV k b] w fun e w' => e = .returned (kbV (unS op (k, b))) ∧ Below w.heap.size w w' := by
  have H2 := hide (show op = 2 → unS op (k, b) = ((1, b), fitK k 1) from fun h => by subst h; rfl)
  have H3 := hide (show op = 3 → unS op (k, b) = ((2, b), fitK k 2) from fun h => by subst h; rfl)
  have H16 := hide (show op = 16 → unS op (k, b) = ((1, false), true) from fun h => by subst h; rfl)
  have H19 := hide (show op = 19 → unS op (k, b) = ((2, b), fitK k 3) from fun h => by subst h; rfl)
  have H0 := hide (show ¬ op = 2 → ¬ op = 3 → ¬ op = 16 → ¬ op = 19 → unS op (k, b) = ((2, b), fitK k 4) from fun h1 h2 h3 h4 => by unfold unS; rw [if_neg h1, if_neg h2, if_neg h3, if_neg h4])
  by_cases h2 : op = 2
  · have HE := hide (H2.out h2)
    subst h2
    clear H2 H3 H16 H19 H0
    go_enter Tryz.func280, Tryz.ntmps280
    go_wp2
    go_region_with (go_at_call 278; refine (ref9_fits_any _ _ _ _).mono ?_; rintro e w' ⟨rfl, rfl⟩)
    all_goals
      go_wp2
      refine bodyPost_ret (v := .tuple #[knV 1 b, .bool (fitK k 1)]) (by simp [results, Tryz.results280, go_sem]) rfl ⟨by rw [HE.out], zX⟩
  by_cases h3 : op = 3
  · have HE := hide (H3.out h3)
    subst h3
    clear H2 H3 H16 H19 H0
    go_enter Tryz.func280, Tryz.ntmps280
    go_wp2
    go_region_with (go_at_call 278; refine (ref9_fits_any _ _ _ _).mono ?_; rintro e w' ⟨rfl, rfl⟩)
    all_goals
      go_wp2
      refine bodyPost_ret (v := .tuple #[knV 2 b, .bool (fitK k 2)]) (by simp [results, Tryz.results280, go_sem]) rfl ⟨by rw [HE.out], zX⟩
  by_cases h16 : op = 16
  · have HE := hide (H16.out h16)
    subst h16
    clear H2 H3 H16 H19 H0
    go_enter Tryz.func280, Tryz.ntmps280
    go_wp2
    refine bodyPost_ret (v := .tuple #[knV 1 false, .bool true]) (by simp [results, Tryz.results280, go_sem]) rfl ⟨by rw [HE.out], zX⟩
  by_cases h19 : op = 19
  · have HE := hide (H19.out h19)
    subst h19
    clear H2 H3 H16 H19 H0
    go_enter Tryz.func280, Tryz.ntmps280
    go_wp2
    go_region_with (go_at_call 278; refine (ref9_fits_any _ _ _ _).mono ?_; rintro e w' ⟨rfl, rfl⟩)
    all_goals
      go_wp2
      refine bodyPost_ret (v := .tuple #[knV 2 b, .bool (fitK k 3)]) (by simp [results, Tryz.results280, go_sem]) rfl ⟨by rw [HE.out], zX⟩
  have HE := hide (H0.out h2 h3 h16 h19)
  have e2 : (op == 2) = false := by simpa using h2
  have e3 : (op == 3) = false := by simpa using h3
  have e16 : (op == 16) = false := by simpa using h16
  have e19 : (op == 19) = false := by simpa using h19
  clear H2 H3 H16 H19 H0 h2 h3 h16 h19
  go_enter Tryz.func280, Tryz.ntmps280
  go_wp2
  go_region_with (go_at_call 278; refine (ref9_fits_any _ _ _ _).mono ?_; rintro e w' ⟨rfl, rfl⟩)
  all_goals
    go_wp2
    refine bodyPost_ret (v := .tuple #[knV 2 b, .bool (fitK k 4)]) (by simp [results, Tryz.results280, go_sem]) rfl ⟨by rw [HE.out], zX⟩
set_option maxRecDepth 100000 in
set_option maxHeartbeats 4000000 in
theorem ref9_difference_s (k1 k2 : Int) (b1 b2 : Bool) (w : World) : Calls Tryz.prog 302 #[knV k1 b1, knV k2 b2] w fun e w' => e = .returned (kbV (difS (k1, b1) (k2, b2))) ∧ Below w.heap.size w w' := by
  go_enter Tryz.func302, Tryz.ntmps302
  go_wp2_with (go_at_call 278; refine (ref9_fits_any _ _ _ _).mono ?_; rintro e w' ⟨rfl, rfl⟩)
  all_goals
    refine bodyPost_ex rfl ?_
    apply Exists.intro
    apply And.intro
    · simp [results, Tryz.results302, go_sem]; rfl
    · refine ⟨?_, zX⟩
      simp_all [difS]
set_option maxRecDepth 100000 in
set_option maxHeartbeats 8000000 in
theorem ref9_binary_s (op k1 k2 : Int) (b1 b2 : Bool) (w : World) : Calls Tryz.prog 281 #[.int .i64 op, knV k1 b1, knV k2 b2] w fun e w' => e = .returned (kbV (bnS op (k1, b1) (k2, b2))) ∧ Below w.heap.size w w' := by
  have HD := hide (fun W => ref9_difference_s k1 k2 b1 b2 W)
  have HC := hide (fun W => ref9_common_s k1 k2 b1 b2 W)
  obtain ⟨⟨⟨kd, bd⟩, cd⟩, hd⟩ : ∃ r, difS (k1, b1) (k2, b2) = r := ⟨_, rfl⟩
  obtain ⟨⟨kc, cc⟩, hc⟩ : ∃ r, comS (k1, b1) (k2, b2) = r := ⟨_, rfl⟩
  rw [hd] at HD
  rw [hc] at HC
  have HB := hide (show bnS op (k1, b1) (k2, b2) = (if op = 4 then (if k1 = 4 then ((4, true), fitK k2 2) else ((2, true), fitK k1 2 && fitK k2 2))
  else if op = 5 then ((kd, bd), cd)
  else if op = 6 ∨ op = 7 ∨ op = 8 then ((2, true), fitK k1 2 && fitK k2 2)
  else if op = 9 then ((3, true), fitK k1 3 && fitK k2 3)
  else if op = 14 ∨ op = 15 then ((1, b1 || b2), fitK k1 1 && fitK k2 1)
  else if op = 18 then ((kc, b1 && b2), cc)
  else ((1, b1 || b2), cc)) from by unfold bnS; rw [hd, hc])
  clear hd hc
  generalize bnS op (k1, b1) (k2, b2) = r at *
  cases b1 <;> cases b2
  all_goals
    go_enter Tryz.func281, Tryz.ntmps281
    go_wp2_with (first
      | (go_at_call 278; refine (ref9_fits_any _ _ _ _).mono ?_; rintro e w' ⟨rfl, rfl⟩)
      | (go_at_call 302; refine (HD.out _).mono ?_; rintro e w1 ⟨rfl, hb1⟩; obtain ⟨r0, r1, fr, hb2, q1, q2⟩ := cells2_far hb1; have s0 := (fun a => (box2set r0 r1 a (.bool true)).1); have s1 := (fun a b => (box2set r0 r1 a b).2); clear hb1)
      | (go_at_call 277; refine (HC.out _).mono ?_; rintro e w1 ⟨rfl, hb1⟩; obtain ⟨r0, r1, fr, hb2, q1, q2⟩ := cells2_far hb1; have s0 := (fun a => (box2set r0 r1 a (.bool true)).1); have s1 := (fun a b => (box2set r0 r1 a b).2); clear hb1))
    all_goals
      refine bodyPost_ex rfl ?_
      apply Exists.intro
      apply And.intro
      · first | (simp [results, Tryz.results281, go_sem, s0, s1]; rfl) | (simp [results, Tryz.results281, go_sem]; rfl)
      · refine ⟨?_, zX⟩
        have hb := HB.out
        clear HB HD HC
        simp_all
end Go.Proofs.YtmbeeefkpgfgmaaGreatDoor
