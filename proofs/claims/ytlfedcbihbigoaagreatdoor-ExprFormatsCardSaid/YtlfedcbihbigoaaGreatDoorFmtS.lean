/- What the writers of expressions compute, in plain lists. No program in sight. -/
import Derived.Test.YtlfedcbihbigoaaGreatDoorBaseVX
import Derived.Test.YtlfedcbihbigoaaGreatDoorPrs
import Derived.Test.YtlfedcbihbigoaaGreatDoorJoiRv
set_option linter.unusedVariables false
set_option linter.unusedSimpArgs false
namespace Go.Proofs.YtlfedcbihbigoaaGreatDoor
open Go.RowKit
structure Pc where
  text : Bytes
  level : Int
  num : Bool
def pc0 : Pc := ⟨[], 0, false⟩
def Pc.at' (p : Pc) (l : Int) : Bytes := if p.level < l then [40] ++ p.text ++ [41] else p.text
noncomputable def litP (v : Vl) : Pc :=
  if v.kind = 1 then ⟨if v.num = 1 then wTrue else wFalse, 8, false⟩
  else if v.kind = 2 then (if v.num < 0 then ⟨[45] ++ Lib.decDigits (-v.num).toNat, 7, true⟩ else ⟨Lib.decDigits v.num.toNat, 8, true⟩)
  else if v.kind = 3 then ⟨quoteS v.text, 8, false⟩
  else if v.kind = 4 then ⟨64 :: fmtS v.num, 8, false⟩
  else ⟨wNull, 8, false⟩
def binS (o : Int) : Option (Bytes × Int × Int × Int) :=
  if o = 15 then some ([111, 114], 0, 0, 1)
  else if o = 14 then some ([97, 110, 100], 1, 1, 2)
  else if o = 10 then some ([61], 3, 4, 4)
  else if o = 11 then some ([33, 61], 3, 4, 4)
  else if o = 12 then some ([60], 3, 4, 4)
  else if o = 13 then some ([60, 61], 3, 4, 4)
  else if o = 9 then some ([43, 43], 4, 4, 5)
  else if o = 4 then some ([43], 5, 5, 6)
  else if o = 5 then some ([45], 5, 5, 6)
  else if o = 6 then some ([42], 6, 6, 7)
  else if o = 7 then some ([47], 6, 6, 7)
  else if o = 8 then some ([37], 6, 6, 7)
  else none
def fnS (o : Int) (x : Bytes) : Bytes :=
  if o = 16 then [105, 115, 110, 117, 108, 108] else if o = 17 then [105, 102] else if o = 18 then [99, 111, 97, 108, 101, 115, 99, 101]
  else if o = 19 then [108, 101, 110, 103, 116, 104] else if o = 20 then wDay else x
def argS (n : Nd) (l : List Pc) : List Bytes := l.map Pc.text ++ (if n.op = 20 then [n.name] else [])
noncomputable def writeS (n : Nd) (l : List Pc) : Pc := match binS n.op with
  | some (t, o, a, b) => ⟨(l.getD 0 pc0).at' a ++ [32] ++ t ++ [32] ++ (l.getD 1 pc0).at' b, o, false⟩
  | none =>
    if n.op = 0 then litP n.val
    else if n.op = 1 then ⟨n.name, 8, false⟩
    else if n.op = 2 then ⟨[110, 111, 116, 32] ++ (l.getD 0 pc0).at' 2, 2, false⟩
    else if n.op = 3 then (if (l.getD 0 pc0).num = true then ⟨[45, 40] ++ (l.getD 0 pc0).text ++ [41], 7, false⟩ else ⟨[45] ++ (l.getD 0 pc0).at' 7, 7, false⟩)
    else ⟨fnS n.op n.name ++ [40] ++ List.intercalate [44, 32] (argS n l) ++ [41], 8, false⟩
noncomputable def stepF (n : Nd) (st : List Pc) : List Pc := st.take (st.length - n.ar.toNat) ++ [writeS n (st.drop (st.length - n.ar.toNat))]
noncomputable def runF : List Nd → List Pc → List Pc
  | [], st => st
  | n :: es, st => runF es (stepF n st)
noncomputable def fmtR (es : List Nd) : Bytes × Int := if validE es = 0 then (((runF es []).getD 0 pc0).text, 0) else ([], validE es)
/-! ### how long the texts are -/
def sumL : List Pc → Nat
  | [] => 0
  | p :: l => p.text.length + sumL l
theorem sumL_app : ∀ a b : List Pc, sumL (a ++ b) = sumL a + sumL b
  | [], b => by simp [sumL]
  | p :: a, b => by rw [List.cons_append, sumL, sumL, sumL_app a b]; omega
theorem sumL_split (l : List Pc) (r : Nat) : sumL (l.take r) + sumL (l.drop r) = sumL l := by
  rw [← sumL_app, List.take_append_drop]
theorem mem_sumL : ∀ (l : List Pc) (p : Pc), p ∈ l → p.text.length ≤ sumL l
  | q :: l, p, h => by
    rcases List.mem_cons.1 h with rfl | h
    · unfold sumL; omega
    · have := mem_sumL l p h; unfold sumL; omega
theorem getD_sumL (l : List Pc) (i : Nat) : (l.getD i pc0).text.length ≤ sumL l := by
  rw [List.getD_eq_getElem?_getD]
  rcases Nat.lt_or_ge i l.length with h | h
  · rw [List.getElem?_eq_getElem h, Option.getD_some]
    exact mem_sumL l _ (List.getElem_mem h)
  · rw [List.getElem?_eq_none h]; simp [pc0]
theorem at_len (p : Pc) (l : Int) : (p.at' l).length ≤ p.text.length + 2 := by
  unfold Pc.at'; split <;> simp
theorem inter2_len : ∀ (l : List Bytes), (List.intercalate [44, 32] l).length ≤ (l.map List.length).sum + 2 * l.length
  | [] => by simp
  | [x] => by simp [List.intercalate]
  | x :: y :: l => by
    have h := inter2_len (y :: l)
    have e : List.intercalate [44, 32] (x :: y :: l) = x ++ [44, 32] ++ List.intercalate [44, 32] (y :: l) := by simp [List.intercalate, List.intersperse]
    rw [e]
    simp only [List.length_append, List.length_cons, List.map_cons, List.sum_cons, List.length_nil] at *
    omega
theorem map_text_sum : ∀ l : List Pc, ((l.map Pc.text).map List.length).sum = sumL l
  | [] => rfl
  | p :: l => by simp only [List.map_cons, List.sum_cons, sumL]; rw [map_text_sum l]
theorem two_sumL : ∀ l : List Pc, (l.getD 0 pc0).text.length + (l.getD 1 pc0).text.length ≤ sumL l
  | [] => by simp [pc0, sumL]
  | [p] => by simp [pc0, sumL]
  | p :: q :: l => by simp [sumL] <;> omega
theorem litP_len {v : Vl} (h : validV v.kind v.num v.text = true) : (litP v).text.length ≤ 140 := by
  obtain ⟨k, n, x⟩ := v
  simp only at h
  rcases validV_cases h with ⟨rfl, rfl, rfl⟩ | ⟨rfl, hn, rfl⟩ | ⟨rfl, h1, h2, rfl⟩ | ⟨rfl, rfl, hx⟩ | ⟨rfl, h1, h2, rfl⟩
  · simp [litP, wNull]
  · rcases hn with rfl | rfl <;> simp [litP, wTrue, wFalse]
  · have a1 := decDigits_le (n := (-n).toNat) (by omega)
    have a2 := decDigits_le (n := n.toNat) (by omega)
    unfold litP
    simp only [Int.reduceEq, ↓reduceIte]
    split
    · simp only [List.length_append, List.length_singleton]; omega
    · simp only; omega
  · have := quote_len x
    simp only [litP, quoteS, Int.reduceEq, ↓reduceIte, List.length_cons, List.length_append, List.length_nil]
    omega
  · have := fmtS_len h1 h2
    simp only [litP, Int.reduceEq, ↓reduceIte, List.length_cons]
    omega
theorem binS_none {o : Int} (h : ¬ (4 ≤ o ∧ o ≤ 15)) : binS o = none := by
  unfold binS
  iterate 12 rw [if_neg (by omega)]
theorem binS_len' (o : Int) : ((binS o).getD ([], 0, 0, 0)).1.length ≤ 3 := by
  by_cases h : 4 ≤ o ∧ o ≤ 15
  · rcases (by omega : o = 4 ∨ o = 5 ∨ o = 6 ∨ o = 7 ∨ o = 8 ∨ o = 9 ∨ o = 10 ∨ o = 11 ∨ o = 12 ∨ o = 13 ∨ o = 14 ∨ o = 15) with rfl | rfl | rfl | rfl | rfl | rfl | rfl | rfl | rfl | rfl | rfl | rfl <;> decide
  · rw [binS_none h]; decide
theorem binS_len {o : Int} {t : Bytes} {a b c : Int} (h : binS o = some (t, a, b, c)) : t.length ≤ 3 := by
  have := binS_len' o
  rw [h] at this
  exact this
theorem fnS_len {o : Int} {x : Bytes} (h : x.length ≤ 49) : (fnS o x).length ≤ 49 := by
  unfold fnS wDay
  repeat' split
  all_goals first | (simp; done) | exact h
theorem argS_len {n : Nd} {l : List Pc} (h : n.name.length ≤ 49) (hl : l.length ≤ 8) : (List.intercalate [44, 32] (argS n l)).length ≤ sumL l + 67 := by
  refine Nat.le_trans (inter2_len _) ?_
  unfold argS
  rw [List.map_append, List.sum_append, map_text_sum, List.length_append, List.length_map]
  split
  · simp only [List.map_cons, List.map_nil, List.sum_cons, List.sum_nil, List.length_singleton]; omega
  · simp only [List.map_nil, List.sum_nil, List.length_nil]; omega
theorem ok_lit {n : Nd} (h : n.ok = true) (h0 : n.op = 0) : validV n.val.kind n.val.num n.val.text = true := by
  have h : shapedN n.op n.val.kind n.val.num n.val.text n.name n.arity = true := h
  unfold shapedN at h
  rw [if_pos h0] at h
  simp only [Bool.and_eq_true] at h
  exact h.1.1
theorem writeS_len {n : Nd} {l : List Pc} (h : n.ok = true) (hl : l.length ≤ 8) : (writeS n l).text.length ≤ sumL l + 150 := by
  have hn := ok_name h
  have h0 := getD_sumL l 0
  have h2 := two_sumL l
  have ha := fun k => at_len (l.getD 0 pc0) k
  have hb := fun k => at_len (l.getD 1 pc0) k
  have hf := fnS_len (o := n.op) hn
  have hg := argS_len (n := n) (l := l) hn hl
  have hlit := fun h0 => litP_len (ok_lit h h0)
  unfold writeS
  split
  · rename_i t o a b hbin
    have := binS_len hbin
    have := ha a
    have := hb b
    simp only [List.length_append, List.length_singleton]
    omega
  · split
    · rename_i h0; have := hlit h0; omega
    split
    · simp only; omega
    split
    · have := ha 2
      simp only [List.length_append, List.length_cons, List.length_nil]; omega
    split
    · split
      · simp only [List.length_append, List.length_cons, List.length_nil]; omega
      · have := ha 7
        simp only [List.length_append, List.length_cons, List.length_nil]; omega
    · simp only [List.length_append, List.length_cons, List.length_nil]; omega
end Go.Proofs.YtlfedcbihbigoaaGreatDoor
