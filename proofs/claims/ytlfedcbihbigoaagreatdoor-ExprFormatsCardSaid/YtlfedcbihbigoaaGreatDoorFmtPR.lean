/- Plain: what a node is by its operator; pieces in memory; the text of a binary operator. Plain: what a node with possible fields is over its operands' pieces. Plain: the machine of pieces, node by node; rows of pieces in memory. -/
import Derived.Test.YtlfedcbihbigoaaGreatDoorFmtA
set_option linter.unusedVariables false
set_option linter.unusedSimpArgs false
namespace Go.Proofs.YtlfedcbihbigoaaGreatDoor
open Go.RowKit
theorem vl0_of {k n : Int} {x : Bytes} (h : zeroV k n x = true) : (⟨k, n, x⟩ : Vl) = vl0 := by
  unfold zeroV at h
  simp at h
  obtain ⟨⟨h1, h2⟩, h3⟩ := h
  rw [h1, h2, h3]; rfl
/-- What a node with possible fields is. -/
theorem nd_cases {n : Nd} (h : n.ok = true) : (n.op = 0 ∧ n = ⟨0, n.val, [], 0⟩ ∧ validV n.val.kind n.val.num n.val.text = true) ∨ (n.op = 1 ∧ n = ⟨1, vl0, n.name, 0⟩ ∧ isNameB 24 n.name = true ∧ resB n.name = false) ∨
    (n.op = 20 ∧ n = ⟨20, vl0, n.name, 0⟩ ∧ isQualB 24 n.name = true ∧ resB n.name = false) ∨
    (n.op = 21 ∧ n = ⟨21, vl0, n.name, n.arity⟩ ∧ isQualB 24 n.name = true ∧ resB n.name = false ∧ biB n.name = false ∧ 0 ≤ n.arity ∧ n.arity ≤ 8) ∨ (2 ≤ n.op ∧ n.op ≤ 19 ∧ n = opNd n.op) := by
  obtain ⟨o, ⟨k, m, x⟩, nm, a⟩ := n
  replace h : shapedN o k m x nm a = true := h
  unfold shapedN at h
  split at h
  · rename_i h0
    subst h0
    simp only [Bool.and_eq_true, beq_iff_eq, List.isEmpty_iff] at h
    obtain ⟨⟨h1, rfl⟩, rfl⟩ := h
    exact .inl ⟨rfl, rfl, h1⟩
  · rename_i h0
    rw [Bool.and_eq_true] at h
    obtain ⟨hz, h⟩ := h
    rw [vl0_of hz]
    split at h
    · rename_i h1; subst h1
      simp only [Bool.and_eq_true, beq_iff_eq, Bool.not_eq_true'] at h
      obtain ⟨⟨rfl, h2⟩, h3⟩ := h
      exact .inr (.inl ⟨rfl, rfl, h2, h3⟩)
    split at h
    · rename_i h1; subst h1
      simp only [Bool.and_eq_true, beq_iff_eq, Bool.not_eq_true'] at h
      obtain ⟨⟨rfl, h2⟩, h3⟩ := h
      exact .inr (.inr (.inl ⟨rfl, rfl, h2, h3⟩))
    split at h
    · rename_i h1; subst h1
      simp only [Bool.and_eq_true, Bool.not_eq_true', decide_eq_true_eq] at h
      obtain ⟨⟨⟨⟨h2, h3⟩, h4⟩, h5⟩, h6⟩ := h
      exact .inr (.inr (.inr (.inl ⟨rfl, rfl, h2, h4, h3, h5, h6⟩)))
    · simp only [Bool.and_eq_true, beq_iff_eq, List.isEmpty_iff, decide_eq_true_eq] at h
      obtain ⟨⟨rfl, rfl⟩, h3⟩ := h
      refine .inr (.inr (.inr (.inr ⟨?_, ?_, rfl⟩)))
      · simp only; unfold arityN at h3; (repeat' split at h3) <;> omega
      · simp only; unfold arityN at h3; (repeat' split at h3) <;> omega
theorem bi_names {x : Bytes} (h : biB x = false) : builtS x = none ∧ x ≠ wDay := by
  have h : builtinS.contains x = false := h
  unfold builtinS at h
  simp only [List.contains_cons, List.contains_nil, Bool.or_false, Bool.or_eq_false_iff, beq_eq_false_iff_ne] at h
  obtain ⟨h1, h2, h3, h4, h5⟩ := h
  refine ⟨?_, h5⟩
  unfold builtS
  rw [if_neg h1, if_neg h2, if_neg h3, if_neg h4]

def binG (o : Int) : Bytes × Int × Int × Int := (binS o).getD ([], 0, 0, 0)
def binP (o : Int) (p q : Pc) : Pc := ⟨p.at' (binG o).2.2.1 ++ [32] ++ (binG o).1 ++ [32] ++ q.at' (binG o).2.2.2, (binG o).2.1, false⟩
theorem binS_some {o : Int} (h : 4 ≤ o ∧ o ≤ 15) : binS o = some (binG o) := by
  rcases (by omega : o = 4 ∨ o = 5 ∨ o = 6 ∨ o = 7 ∨ o = 8 ∨ o = 9 ∨ o = 10 ∨ o = 11 ∨ o = 12 ∨ o = 13 ∨ o = 14 ∨ o = 15) with rfl | rfl | rfl | rfl | rfl | rfl | rfl | rfl | rfl | rfl | rfl | rfl <;> rfl
theorem writeS_bin {n : Nd} {p q : Pc} (h : 4 ≤ n.op ∧ n.op ≤ 15) : writeS n [p, q] = binP n.op p q := by
  unfold writeS
  rw [binS_some h]; rfl
theorem pcCells_len : ∀ l : List Pc, (pcCells l).length = l.length * 3
  | [] => rfl
  | n :: es => by
    have := pcCells_len es
    rw [show pcCells (n :: es) = n.cells ++ pcCells es from rfl, List.length_append, this, List.length_cons]
    simp [Pc.cells]; omega
theorem pcCells_get : ∀ (l : List Pc) (i : Nat) (h : i < l.length), (pcCells l)[i * 3]? = some (str l[i].text) ∧ (pcCells l)[i * 3 + 1]? = some (.int .i64 l[i].level) ∧ (pcCells l)[i * 3 + 2]? = some (.bool l[i].num)
  | [], i, h => by simp at h
  | n :: es, 0, _ => ⟨rfl, rfl, rfl⟩
  | n :: es, i + 1, h => by
    obtain ⟨h1, h2, h3⟩ := pcCells_get es i (by simpa using h)
    have e : ∀ j, (pcCells (n :: es))[(i + 1) * 3 + j]? = (pcCells es)[i * 3 + j]? := by
      intro j
      rw [show pcCells (n :: es) = n.cells ++ pcCells es from rfl, List.getElem?_append_right (by simp [Pc.cells]; omega)]
      congr 1
      simp [Pc.cells]; omega
    exact ⟨by simpa using (e 0).trans h1, (e 1).trans h2, (e 2).trans h3⟩
def PcAt (w : World) (g off : Nat) (p : Pc) : Prop := w.cell? ⟨g, off, none⟩ = some (str p.text) ∧ w.cell? ⟨g, off + 1, none⟩ = some (.int .i64 p.level) ∧ w.cell? ⟨g, off + 2, none⟩ = some (.bool p.num)
/-- A slice that reads as a list of pieces. -/
def PcsAt (w : World) (A : Option Addr) (l : List Pc) : Prop :=
  l = [] ∨ ∃ g off, A = some ⟨g, off, none⟩ ∧ g < w.heap.size ∧ ∀ j u, (pcCells l)[j]? = some u → w.cell? ⟨g, off + j, none⟩ = some u
theorem pc_of_cells {w : World} {g off : Nat} {l : List Pc} (hc : ∀ j u, (pcCells l)[j]? = some u → w.cell? ⟨g, off + j, none⟩ = some u) (i : Nat) (hi : i < l.length) : PcAt w g (off + i * 3) l[i] := by
  obtain ⟨h1, h2, h3⟩ := pcCells_get l i hi
  exact ⟨hc _ _ h1, hc _ _ h2, hc _ _ h3⟩
theorem PcsAt.below {w w' : World} {A : Option Addr} {l : List Pc} (h : PcsAt w A l) (hb : Below w.heap.size w w') : PcsAt w' A l := by
  rcases h with h | ⟨g, off, hA, hg, hc⟩
  · exact .inl h
  · exact .inr ⟨g, off, hA, Nat.lt_of_lt_of_le hg hb.size, fun j u hu => (hb.cell (p := ⟨g, _, none⟩) hg).trans (hc j u hu)⟩
theorem PcsAt.one {w : World} {A : Option Addr} {p : Pc} {l : List Pc} (h : PcsAt w A (p :: l)) : ∃ g off, A = some ⟨g, off, none⟩ ∧ g < w.heap.size ∧ PcAt w g off p := by
  rcases h with h | ⟨g, off, hA, hg, hc⟩
  · cases h
  · have := pc_of_cells hc 0 (by simp)
    simp only [Nat.zero_mul, Nat.add_zero, List.getElem_cons_zero] at this
    exact ⟨g, off, hA, hg, this⟩
theorem PcsAt.two {w : World} {A : Option Addr} {p q : Pc} {l : List Pc} (h : PcsAt w A (p :: q :: l)) : ∃ g off, A = some ⟨g, off, none⟩ ∧ g < w.heap.size ∧ PcAt w g off p ∧ PcAt w g (off + 3) q := by
  rcases h with h | ⟨g, off, hA, hg, hc⟩
  · cases h
  · have h0 := pc_of_cells hc 0 (by simp)
    have h1 := pc_of_cells hc 1 (by simp)
    simp only [Nat.zero_mul, Nat.add_zero, List.getElem_cons_zero, Nat.one_mul, List.getElem_cons_succ] at h0 h1
    exact ⟨g, off, hA, hg, h0, h1⟩
theorem PcAt.below {w w' : World} {g off : Nat} {p : Pc} (h : PcAt w g off p) (hg : g < w.heap.size) (hb : Below w.heap.size w w') : PcAt w' g off p :=
  ⟨(hb.cell (p := ⟨g, _, none⟩) hg).trans h.1, (hb.cell (p := ⟨g, _, none⟩) hg).trans h.2.1, (hb.cell (p := ⟨g, _, none⟩) hg).trans h.2.2⟩
/-! ### the text of a call, operand by operand -/
def preS (x : Bytes) (l : List Pc) (k : Nat) : Bytes := x ++ [40] ++ List.intercalate [44, 32] ((l.take k).map Pc.text)
theorem inter2_snoc (l : List Bytes) (x : Bytes) (h : l ≠ []) : List.intercalate [44, 32] (l ++ [x]) = List.intercalate [44, 32] l ++ [44, 32] ++ x := by
  induction l with
  | nil => exact absurd rfl h
  | cons a l ih =>
    cases l with
    | nil => simp [List.intercalate]
    | cons b l =>
      have := ih (by simp)
      simp only [List.intercalate, List.cons_append, List.intersperse, List.flatten_cons] at *
      simp [this]
theorem preS_zero (x : Bytes) (l : List Pc) : preS x l 0 = x ++ [40] := by simp [preS, List.intercalate]
theorem preS_one (x : Bytes) (l : List Pc) (h : 0 < l.length) : preS x l 1 = x ++ ([40] : Bytes) ++ (l[0]'h).text := by
  cases l with
  | nil => simp at h
  | cons a l => simp [preS, List.intercalate]
theorem preS_succ (x : Bytes) (l : List Pc) (k : Nat) (h : k < l.length) (h0 : 0 < k) : preS x l (k + 1) = preS x l k ++ [44, 32] ++ l[k].text := by
  unfold preS
  rw [List.take_succ_eq_append_getElem h, List.map_append]
  show x ++ [40] ++ List.intercalate [44, 32] ((l.take k).map Pc.text ++ [l[k].text]) = _
  rw [inter2_snoc _ _ (fun e => by
    have : ((l.take k).map Pc.text).length = 0 := by rw [e]; rfl
    rw [List.length_map, List.length_take] at this
    omega)]
  simp
theorem preS_len {x : Bytes} {l : List Pc} (hx : x.length ≤ 100) (hl : l.length ≤ 8) (k : Nat) : (preS x l k).length ≤ sumL l + 200 := by
  unfold preS
  have h1 := inter2_len ((l.take k).map Pc.text)
  have h2 := sumL_split l k
  rw [map_text_sum, List.length_map, List.length_take] at h1
  simp only [List.length_append, List.length_singleton]
  omega
theorem ret_pc {a b : Pc} (h : a = b) : Ending.returned a.agg = .returned b.agg := by rw [h]
abbrev pcO (T : TypeId) (p : Pc) : Obj := .cells #[str p.text, .int .i64 p.level, .bool p.num] T (0, 0)
theorem set3_far {W : World} {B C o : Nat} {x a b c : Value} (h : W.cell? ⟨B, o, none⟩ = some x) (hne : B ≠ C) : (((W.setCell ⟨C, 0, none⟩ a).setCell ⟨C, 1, none⟩ b).setCell ⟨C, 2, none⟩ c).cell? ⟨B, o, none⟩ = some x := by
  have e : ∀ (X : World) (i : Nat) (v : Value), (X.setCell ⟨C, i, none⟩ v).cell? ⟨B, o, none⟩ = X.cell? ⟨B, o, none⟩ := fun X i v => by
    have := Below.heap_setCell X ⟨C, i, none⟩ v B (fun e => hne e)
    simp [World.cell?, this]
  rw [e, e, e]; exact h
theorem pc_block {W : World} {B : Nat} {p : Pc} {T : TypeId} (h : W.heap[B]? = some (pcO T p)) : PcAt W B 0 p := by
  unfold PcAt
  simp [World.cell?, h]
theorem binG_len {o : Int} (h : 4 ≤ o ∧ o ≤ 15) : (binG o).1.length ≤ 3 := binS_len (t := (binG o).1) (a := (binG o).2.1) (b := (binG o).2.2.1) (c := (binG o).2.2.2) (binS_some h)
theorem cells_3g {W : World} {B : Nat} {a b c : Value} {t : TypeId} (h : W.heap[B]? = some (.cells #[a, b, c] t)) : ∀ (j : Nat) (u : Value), [a, b, c][j]? = some u → W.cell? ((⟨B, 0, none⟩ : Addr).add j) = some u := by
  intro j u hu
  have e : (⟨B, 0, none⟩ : Addr).add j = ⟨B, j, none⟩ := by unfold Addr.add; split <;> simp_all
  rw [e, cell_of_heap h]
  simpa using hu
end Go.Proofs.YtlfedcbihbigoaaGreatDoor

namespace Go.Proofs.YtlfedcbihbigoaaGreatDoor
open Go.RowKit
theorem one_of : ∀ {l : List Pc}, l.length = 1 → ∃ p, l = [p]
  | [p], _ => ⟨p, rfl⟩
  | [], h => by cases h
  | _ :: _ :: _, h => by simp at h
theorem two_pc : ∀ {l : List Pc}, l.length = 2 → ∃ p q, l = [p, q]
  | [p, q], _ => ⟨p, q, rfl⟩
  | [], h => by cases h
  | [_], h => by simp at h
  | _ :: _ :: _ :: _, h => by simp at h
theorem writeS_call {o a : Int} {y : Bytes} {l : List Pc} (ho : 16 ≤ o ∧ o ≤ 21) : writeS ⟨o, vl0, y, a⟩ l = ⟨fnS o y ++ [40] ++ List.intercalate [44, 32] (l.map Pc.text ++ (if o = 20 then [y] else [])) ++ [41], 8, false⟩ := by
  unfold writeS argS
  simp only
  rw [binS_none (o := o) (by omega)]
  simp only
  rw [if_neg (by omega), if_neg (by omega), if_neg (by omega), if_neg (by omega)]
/-- A node with possible fields over its operands: which case it is. -/
theorem node_parts {n : Nd} {l : List Pc} (hn : n.ok = true) (hl : (l.length : Int) = n.ar) (hs : sumL l ≤ 100000) :
    (∃ v, n = ⟨0, v, [], 0⟩ ∧ l = [] ∧ validV v.kind v.num v.text = true ∧ writeS n l = litP v) ∨ (∃ x, n = ⟨1, vl0, x, 0⟩ ∧ l = [] ∧ writeS n l = ⟨x, 8, false⟩) ∨
    (∃ p, n = ⟨2, vl0, [], 0⟩ ∧ l = [p] ∧ p.text.length ≤ 900000 ∧ writeS n l = ⟨[110, 111, 116, 32] ++ p.at' 2, 2, false⟩) ∨
    (∃ p, n = ⟨3, vl0, [], 0⟩ ∧ l = [p] ∧ p.text.length ≤ 900000 ∧ p.num = true ∧ writeS n l = ⟨[45, 40] ++ p.text ++ [41], 7, false⟩) ∨
    (∃ p, n = ⟨3, vl0, [], 0⟩ ∧ l = [p] ∧ p.text.length ≤ 900000 ∧ p.num = false ∧ writeS n l = ⟨[45] ++ p.at' 7, 7, false⟩) ∨
    (∃ o p q, n = ⟨o, vl0, [], 0⟩ ∧ l = [p, q] ∧ (4 ≤ o ∧ o ≤ 15) ∧ p.text.length ≤ 900000 ∧ q.text.length ≤ 900000 ∧ writeS n l = binP o p q) ∨
    (∃ o y a, n = ⟨o, vl0, y, a⟩ ∧ (16 ≤ o ∧ o ≤ 21) ∧ l.length ≤ 8 ∧ y.length ≤ 49 ∧ (o = 20 → l.length = 1) ∧ writeS n l = ⟨fnS o y ++ [40] ++ List.intercalate [44, 32] (l.map Pc.text ++ (if o = 20 then [y] else [])) ++ [41], 8, false⟩) := by
  have hnm := ok_name hn
  obtain ⟨ha0, ha8⟩ := shaped_ar hn
  rcases nd_cases hn with ⟨ho, e, hv⟩ | ⟨ho, e, h1, h2⟩ | ⟨ho, e, h1, h2⟩ | ⟨ho, e, h1, h2, h3, h4, h5⟩ | ⟨ho1, ho2, e⟩
  · obtain rfl : l = [] := List.eq_nil_of_length_eq_zero (by have : n.ar = 0 := (by rw [e]; rfl); omega)
    exact .inl ⟨n.val, e, rfl, hv, by rw [e]; rfl⟩
  · obtain rfl : l = [] := List.eq_nil_of_length_eq_zero (by have : n.ar = 0 := (by rw [e]; rfl); omega)
    exact .inr (.inl ⟨n.name, e, rfl, by rw [e]; rfl⟩)
  · have har : n.ar = 1 := by rw [e]; rfl
    refine .inr (.inr (.inr (.inr (.inr (.inr ⟨20, n.name, 0, e, by decide, by omega, hnm, fun _ => by omega, ?_⟩)))))
    have hw := writeS_call (o := 20) (a := 0) (y := n.name) (l := l) (by decide)
    rw [← e] at hw; exact hw
  · refine .inr (.inr (.inr (.inr (.inr (.inr ⟨21, n.name, n.arity, e, by decide, by omega, hnm, fun h => by omega, ?_⟩)))))
    have hw := writeS_call (o := 21) (a := n.arity) (y := n.name) (l := l) (by decide)
    rw [← e] at hw; exact hw
  · generalize n.op = o at *
    subst e
    rcases (by omega : (4 ≤ o ∧ o ≤ 15) ∨ o = 2 ∨ o = 3 ∨ (16 ≤ o ∧ o ≤ 19)) with hb | rfl | rfl | hb
    · have har : (opNd o).ar = 2 := by
        show arityN o 0 = 2
        unfold arityN
        rw [if_neg (by omega), if_neg (by omega), if_neg (by omega), if_neg (by omega), if_pos (by omega)]
      obtain ⟨p, q, rfl⟩ := two_pc (l := l) (by omega)
      have h0 := mem_sumL [p, q] p (by simp)
      have h1 := mem_sumL [p, q] q (by simp)
      exact .inr (.inr (.inr (.inr (.inr (.inl ⟨o, p, q, rfl, rfl, hb, by omega, by omega, writeS_bin hb⟩)))))
    · obtain ⟨p, rfl⟩ := one_of (l := l) (by have : (opNd 2).ar = 1 := rfl; omega)
      have h0 := mem_sumL [p] p (by simp)
      exact .inr (.inr (.inl ⟨p, rfl, rfl, by omega, rfl⟩))
    · obtain ⟨p, rfl⟩ := one_of (l := l) (by have : (opNd 3).ar = 1 := rfl; omega)
      have h0 := mem_sumL [p] p (by simp)
      by_cases hnum : p.num = true
      · exact .inr (.inr (.inr (.inl ⟨p, rfl, rfl, by omega, hnum, by
          show (if p.num = true then (⟨[45, 40] ++ p.text ++ [41], 7, false⟩ : Pc) else _) = _
          rw [if_pos hnum]⟩)))
      · exact .inr (.inr (.inr (.inr (.inl ⟨p, rfl, rfl, by omega, by simpa using hnum, by
          show (if p.num = true then _ else (⟨[45] ++ p.at' 7, 7, false⟩ : Pc)) = _
          rw [if_neg hnum]⟩))))
    · exact .inr (.inr (.inr (.inr (.inr (.inr ⟨o, [], 0, rfl, by omega, by omega, by simp, fun h => by omega, writeS_call (by omega)⟩)))))
end Go.Proofs.YtlfedcbihbigoaaGreatDoor

namespace Go.Proofs.YtlfedcbihbigoaaGreatDoor
open Go.RowKit
/-- Where the writer stands after k nodes. -/
structure FRel (es : List Nd) (k n : Nat) (ps : List Pc) : Prop where
  run : ps = runF (es.take k) []
  len : ps.length = n
  sum : sumL ps ≤ 150 * k
  ht : ∃ st, RunRel es k st ∧ st.length = n
theorem frel_start (es : List Nd) : FRel es 0 0 [] := ⟨rfl, rfl, Nat.le_refl _, [], rfl, rfl⟩
theorem runF_append : ∀ (a b : List Nd) (ps : List Pc), runF (a ++ b) ps = runF b (runF a ps)
  | [], b, ps => rfl
  | n :: a, b, ps => by
    show runF (a ++ b) (stepF n ps) = runF b (runF a (stepF n ps))
    exact runF_append a b _
theorem frel_step {es : List Nd} {k n : Nat} {ps : List Pc} (h : validE es = 0) (hk : k < es.length) (hR : FRel es k n ps) :
    ∃ a : Nat, es[k].ar = a ∧ a ≤ 8 ∧ a ≤ n ∧ es[k].ok = true ∧ ((ps.drop (n - a)).length : Int) = es[k].ar ∧ sumL (ps.drop (n - a)) ≤ 38400 ∧ (writeS es[k] (ps.drop (n - a))).text.length ≤ 38400 ∧ FRel es (k + 1) (n - a + 1) (ps.take (n - a) ++ [writeS es[k] (ps.drop (n - a))]) := by
  obtain ⟨hrun, hlen, hsum, st, hst, hsl⟩ := hR
  obtain ⟨a, ha, ha8, han, st', hst', hlen'⟩ := valid_step h hk hst
  have h256 := valid_le h
  have hok : es[k].ok = true := by
    have h2 := hst'
    unfold RunRel at h2
    rw [runE_take hst hk] at h2
    exact (stepE_ok h2).1
  have hsp := sumL_split ps (n - a)
  have hw := writeS_len (n := es[k]) (l := ps.drop (n - a)) hok (by rw [List.length_drop]; omega)
  refine ⟨a, ha, ha8, by omega, hok, by rw [List.length_drop, ha]; omega, by omega, by omega, ?_, ?_, ?_, st', hst', by omega⟩
  · rw [List.take_succ_eq_append_getElem hk, runF_append, ← hrun]
    show _ = stepF es[k] ps
    unfold stepF
    rw [ha, Int.toNat_natCast, hlen]
  · rw [List.length_append, List.length_take, List.length_singleton]; omega
  · rw [sumL_app]
    simp only [sumL]
    omega
theorem frel_end {es : List Nd} {n : Nat} {ps : List Pc} (h : validE es = 0) (hR : FRel es es.length n ps) : n = 1 ∧ ∃ p, ps = [p] ∧ p.text.length ≤ 38400 ∧ fmtR es = (p.text, 0) := by
  obtain ⟨hrun, hlen, hsum, st, hst, hsl⟩ := hR
  have h1 := valid_last h hst
  have h256 := valid_le h
  have hn : n = 1 := by omega
  subst hn
  obtain ⟨p, rfl⟩ := List.length_eq_one_iff.1 hlen
  refine ⟨rfl, p, rfl, ?_, ?_⟩
  · simp only [sumL] at hsum; omega
  · unfold fmtR
    rw [List.take_length] at hrun
    rw [if_pos h, ← hrun]; rfl
theorem fmtR_bad {es : List Nd} (h : validE es ≠ 0) : fmtR es = ([], validE es) := by
  unfold fmtR; rw [if_neg h]
theorem pcCells_take (ps : List Pc) (r : Nat) : pcCells (ps.take r) = (pcCells ps).take (r * 3) := by
  induction ps generalizing r with
  | nil => simp
  | cons p ps ih =>
    cases r with
    | zero => simp
    | succ r =>
      rw [List.take_succ_cons]
      show p.cells ++ pcCells (ps.take r) = (p.cells ++ pcCells ps).take ((r + 1) * 3)
      rw [ih, show (r + 1) * 3 = r * 3 + 3 by omega]; rfl
theorem pcCells_drop (ps : List Pc) (r : Nat) : pcCells (ps.drop r) = (pcCells ps).drop (r * 3) := by
  induction ps generalizing r with
  | nil => simp
  | cons p ps ih =>
    cases r with
    | zero => simp
    | succ r =>
      rw [List.drop_succ_cons]
      show pcCells (ps.drop r) = (p.cells ++ pcCells ps).drop ((r + 1) * 3)
      rw [ih, show (r + 1) * 3 = r * 3 + 3 by omega]; rfl
theorem pc_own {w : World} {base e n c r : Nat} {A : Option Addr} {ps : List Pc} (h : w.ownsRow base e 3 (.slice A n c) n (pcCells ps)) (hn : ps.length = n) (hr : r ≤ n) : PcsAt w (if c = r then A else A.map (·.add (r * 3))) (ps.drop r) := by
  rcases h.2 with ⟨hv, hn0⟩ | ⟨g, cap, cur, hv, hg, hh, hnc, hcap, hsz, htk⟩
  · exact .inl (List.drop_of_length_le (by omega))
  · injection hv with h1 h2 h3
    subst h1 h3
    by_cases hrn : r = n
    · exact .inl (List.drop_of_length_le (by omega))
    rw [if_neg (by omega)]
    refine .inr ⟨g, r * 3, ?_, lt_of_heap hh, fun j u hu => ?_⟩
    · cases r with
      | zero => simp [Addr.add]
      | succ m => simp [Addr.add]
    · rw [pcCells_drop, List.getElem?_drop] at hu
      have hlt : r * 3 + j < n * 3 := by
        have := (List.getElem?_eq_some_iff.1 hu).1
        rw [pcCells_len] at this; omega
      have hc : w.cell? ⟨g, r * 3 + j, none⟩ = (pcCells ps)[r * 3 + j]? := World.ownsRow.cellAt h (r * 3 + j) hlt
      rw [hc]; exact hu
theorem pc_push (ps : List Pc) (r : Nat) (x : Pc) : (pcCells ps).take (r * 3) ++ [str x.text, .int .i64 x.level, .bool x.num] = pcCells (ps.take r ++ [x]) := by
  rw [← pcCells_take]
  show _ = (ps.take r ++ [x]).flatMap Pc.cells
  rw [List.flatMap_append]; rfl
end Go.Proofs.YtlfedcbihbigoaaGreatDoor
