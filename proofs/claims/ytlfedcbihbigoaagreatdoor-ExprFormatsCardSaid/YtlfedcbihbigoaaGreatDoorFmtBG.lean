/- Contracts: the binary operators of expr's writer: a map that a call makes of constants. Plain and contracts: the built-in names' map, ranged over; strings.Join with a comma. -/
import Derived.Test.YtlfedcbihbigoaaGreatDoorFmtPR
import Derived.Test.YtlfedcbihbigoaaGreatDoorPsK
import Derived.Maps.RangeWalk
set_option linter.unusedVariables false
set_option linter.unusedSimpArgs false
namespace Go.Proofs.YtlfedcbihbigoaaGreatDoor
open Go.RowKit Go.WideMaps Go.Maps
def binR (v : Value) : Option (DataW Unit × List MemPlace) := match v with
  | .agg ⟨[.string s, .int .i64 a, .int .i64 b, .int .i64 c]⟩ => some (.agg [.lit (.string (bs s)), .lit (.int .i64 a), .lit (.int .i64 b), .lit (.int .i64 c)], [])
  | _ => none
def bv (t : Bytes) (a b c : Int) : DataW Unit := .agg [.lit (.string t), .lit (.int .i64 a), .lit (.int .i64 b), .lit (.int .i64 c)]
theorem binR_inv {v : Value} {t : Bytes} {x y z : Int} {ps : List MemPlace} (h : binR v = some (bv t x y z, ps)) : v = .agg #[str t, .int .i64 x, .int .i64 y, .int .i64 z] := by
  unfold binR at h
  split at h
  · rename_i s a b c
    injection h with h
    injection h with h _
    unfold bv at h
    injection h with h
    injection h with h1 h
    injection h with h2 h
    injection h with h3 h
    injection h with h4 _
    injection h1 with h1
    injection h1 with h1
    injection h2 with h2
    injection h2 with _ h2
    injection h3 with h3
    injection h3 with _ h3
    injection h4 with h4
    injection h4 with _ h4
    subst h1 h2 h3 h4
    rw [show str (bs s) = .string s from by unfold str; rw [mk_bs]]
  · cases h
theorem lawInt : Keyed Tryz.prog 3 := int_keyed Tryz.underlying3
def binD : DataW Unit := (((((((((((((DataW.map [] : DataW Unit).put (.int .i64 15) (bv [111, 114] 0 0 1)).put (.int .i64 14) (bv [97, 110, 100] 1 1 2)).put (.int .i64 10) (bv [61] 3 4 4)).put (.int .i64 11) (bv [33, 61] 3 4 4)).put (.int .i64 12) (bv [60] 3 4 4)).put (.int .i64 13) (bv [60, 61] 3 4 4)).put (.int .i64 9) (bv [43, 43] 4 4 5)).put (.int .i64 4) (bv [43] 5 5 6)).put (.int .i64 5) (bv [45] 5 5 6)).put (.int .i64 6) (bv [42] 6 6 7)).put (.int .i64 7) (bv [47] 6 6 7)).put (.int .i64 8) (bv [37] 6 6 7))
theorem binD_is : binD = .map [(.int .i64 4, bv [43] 5 5 6), (.int .i64 5, bv [45] 5 5 6), (.int .i64 6, bv [42] 6 6 7), (.int .i64 7, bv [47] 6 6 7), (.int .i64 8, bv [37] 6 6 7), (.int .i64 9, bv [43, 43] 4 4 5), (.int .i64 10, bv [61] 3 4 4), (.int .i64 11, bv [33, 61] 3 4 4), (.int .i64 12, bv [60] 3 4 4), (.int .i64 13, bv [60, 61] 3 4 4), (.int .i64 14, bv [97, 110, 100] 1 1 2), (.int .i64 15, bv [111, 114] 0 0 1)] := by rfl
theorem int_key (a b : Int) : (Lit.int .i64 a).sameKey (.int .i64 b) = (a == b) := by
  rw [Bool.eq_iff_iff]; simp [Lit.sameKey]
theorem bin_has (o : Int) : Maps.has binD (.int .i64 o) = (binS o).isSome ∧ binD.atKey (.int .i64 o) (bv [] 0 0 0) = bv (binG o).1 (binG o).2.1 (binG o).2.2.1 (binG o).2.2.2 := by
  rw [binD_is]
  by_cases h : 4 ≤ o ∧ o ≤ 15
  · rcases (by omega : o = 4 ∨ o = 5 ∨ o = 6 ∨ o = 7 ∨ o = 8 ∨ o = 9 ∨ o = 10 ∨ o = 11 ∨ o = 12 ∨ o = 13 ∨ o = 14 ∨ o = 15) with rfl | rfl | rfl | rfl | rfl | rfl | rfl | rfl | rfl | rfl | rfl | rfl <;> exact ⟨rfl, rfl⟩
  · have hn := binS_none h
    have e4 : ((4 : Int) == o) = false := beq_eq_false_iff_ne.2 (by omega)
    have e5 : ((5 : Int) == o) = false := beq_eq_false_iff_ne.2 (by omega)
    have e6 : ((6 : Int) == o) = false := beq_eq_false_iff_ne.2 (by omega)
    have e7 : ((7 : Int) == o) = false := beq_eq_false_iff_ne.2 (by omega)
    have e8 : ((8 : Int) == o) = false := beq_eq_false_iff_ne.2 (by omega)
    have e9 : ((9 : Int) == o) = false := beq_eq_false_iff_ne.2 (by omega)
    have e10 : ((10 : Int) == o) = false := beq_eq_false_iff_ne.2 (by omega)
    have e11 : ((11 : Int) == o) = false := beq_eq_false_iff_ne.2 (by omega)
    have e12 : ((12 : Int) == o) = false := beq_eq_false_iff_ne.2 (by omega)
    have e13 : ((13 : Int) == o) = false := beq_eq_false_iff_ne.2 (by omega)
    have e14 : ((14 : Int) == o) = false := beq_eq_false_iff_ne.2 (by omega)
    have e15 : ((15 : Int) == o) = false := beq_eq_false_iff_ne.2 (by omega)
    simp [Maps.has, DataW.atKey, int_key, e4, e5, e6, e7, e8, e9, e10, e11, e12, e13, e14, e15, binG, hn]
theorem zeroWr (w : World) : (zeroValue 104).run Tryz.prog w = .ok (.agg #[.string ⟨#[]⟩, .int .i64 0, .int .i64 0, .int .i64 0]) w := by kernel_rfl
set_option maxRecDepth 100000 in
theorem bin_look {w : World} {B n : Nat} (h : w.ownsMap Tryz.prog 3 binR B n binD) (o : Int) (hw : (Lit.int .i64 o).wf = true) :
    (Instr.lookup 106 (.map (some B)) (.int .i64 o) true).run Tryz.prog w = .ok (.tuple #[.agg #[str (binG o).1, .int .i64 (binG o).2.1, .int .i64 (binG o).2.2.1, .int .i64 (binG o).2.2.2], .bool (binS o).isSome]) w := by
  obtain ⟨v, ps, hrun, hv⟩ := h.look_ok lawInt Tryz.underlying106 (zeroWr w) (zd := bv [] 0 0 0) (zp := []) rfl (keyOf_int_mk Tryz.underlying3 hw)
  obtain ⟨h1, h2⟩ := bin_has o
  rw [h2] at hv
  have hv2 := binR_inv hv
  subst hv2
  rw [h1] at hrun
  exact hrun
set_option maxRecDepth 100000 in
set_option maxHeartbeats 4000000 in
theorem binary_any (w : World) : Calls Tryz.prog 65 #[] w fun e w' => (∃ B n, e = .returned (.map (some B)) ∧ w'.ownsMap Tryz.prog 3 binR B n binD) ∧ Below w.heap.size w w' := by
  have hmm := @run_makeMap Tryz.prog
  have o0 := World.ownsMap_made (H := Unit) w Tryz.prog 3 binR
  obtain ⟨w1, r1, o1, g1⟩ := o0.update (t := 106) (val := .agg #[.string ⟨#[111, 114]⟩, .int .i64 0, .int .i64 0, .int .i64 1]) lawInt Tryz.underlying106 (by decide) (keyOf_int_mk (a := 15) Tryz.underlying3 (by decide)) rfl
  obtain ⟨w2, r2, o2, g2⟩ := o1.update (t := 106) (val := .agg #[.string ⟨#[97, 110, 100]⟩, .int .i64 1, .int .i64 1, .int .i64 2]) lawInt Tryz.underlying106 (by decide) (keyOf_int_mk (a := 14) Tryz.underlying3 (by decide)) rfl
  obtain ⟨w3, r3, o3, g3⟩ := o2.update (t := 106) (val := .agg #[.string ⟨#[61]⟩, .int .i64 3, .int .i64 4, .int .i64 4]) lawInt Tryz.underlying106 (by decide) (keyOf_int_mk (a := 10) Tryz.underlying3 (by decide)) rfl
  obtain ⟨w4, r4, o4, g4⟩ := o3.update (t := 106) (val := .agg #[.string ⟨#[33, 61]⟩, .int .i64 3, .int .i64 4, .int .i64 4]) lawInt Tryz.underlying106 (by decide) (keyOf_int_mk (a := 11) Tryz.underlying3 (by decide)) rfl
  obtain ⟨w5, r5, o5, g5⟩ := o4.update (t := 106) (val := .agg #[.string ⟨#[60]⟩, .int .i64 3, .int .i64 4, .int .i64 4]) lawInt Tryz.underlying106 (by decide) (keyOf_int_mk (a := 12) Tryz.underlying3 (by decide)) rfl
  obtain ⟨w6, r6, o6, g6⟩ := o5.update (t := 106) (val := .agg #[.string ⟨#[60, 61]⟩, .int .i64 3, .int .i64 4, .int .i64 4]) lawInt Tryz.underlying106 (by decide) (keyOf_int_mk (a := 13) Tryz.underlying3 (by decide)) rfl
  obtain ⟨w7, r7, o7, g7⟩ := o6.update (t := 106) (val := .agg #[.string ⟨#[43, 43]⟩, .int .i64 4, .int .i64 4, .int .i64 5]) lawInt Tryz.underlying106 (by decide) (keyOf_int_mk (a := 9) Tryz.underlying3 (by decide)) rfl
  obtain ⟨w8, r8, o8, g8⟩ := o7.update (t := 106) (val := .agg #[.string ⟨#[43]⟩, .int .i64 5, .int .i64 5, .int .i64 6]) lawInt Tryz.underlying106 (by decide) (keyOf_int_mk (a := 4) Tryz.underlying3 (by decide)) rfl
  obtain ⟨w9, r9, o9, g9⟩ := o8.update (t := 106) (val := .agg #[.string ⟨#[45]⟩, .int .i64 5, .int .i64 5, .int .i64 6]) lawInt Tryz.underlying106 (by decide) (keyOf_int_mk (a := 5) Tryz.underlying3 (by decide)) rfl
  obtain ⟨w10, r10, o10, g10⟩ := o9.update (t := 106) (val := .agg #[.string ⟨#[42]⟩, .int .i64 6, .int .i64 6, .int .i64 7]) lawInt Tryz.underlying106 (by decide) (keyOf_int_mk (a := 6) Tryz.underlying3 (by decide)) rfl
  obtain ⟨w11, r11, o11, g11⟩ := o10.update (t := 106) (val := .agg #[.string ⟨#[47]⟩, .int .i64 6, .int .i64 6, .int .i64 7]) lawInt Tryz.underlying106 (by decide) (keyOf_int_mk (a := 7) Tryz.underlying3 (by decide)) rfl
  obtain ⟨w12, r12, o12, g12⟩ := o11.update (t := 106) (val := .agg #[.string ⟨#[37]⟩, .int .i64 6, .int .i64 6, .int .i64 7]) lawInt Tryz.underlying106 (by decide) (keyOf_int_mk (a := 8) Tryz.underlying3 (by decide)) rfl
  have HO := hide o12
  have hb : Below w.heap.size w w12 := by
    refine Below.grown (Below.grown (Below.grown (Below.grown (Below.grown (Below.grown (Below.grown (Below.grown (Below.grown (Below.grown (Below.grown (Below.grown ((Below.refl _ w).alloc (Nat.le_refl _) _) g1 ?_ ?_) g2 ?_ ?_) g3 ?_ ?_) g4 ?_ ?_) g5 ?_ ?_) g6 ?_ ?_) g7 ?_ ?_) g8 ?_ ?_) g9 ?_ ?_) g10 ?_ ?_) g11 ?_ ?_) g12 ?_ ?_
    all_goals first
      | (intro k hk; injection hk with hk; omega)
      | (have := g1.size; have := g2.size; have := g3.size; have := g4.size; have := g5.size; have := g6.size; have := g7.size; have := g8.size; have := g9.size; have := g10.size; have := g11.size; simp at *; first | done | omega)
  have HB := hide hb
  clear hb o1 g1 o2 g2 o3 g3 o4 g4 o5 g5 o6 g6 o7 g7 o8 g8 o9 g9 o10 g10 o11 g11 o12 g12 o0
  go_enter Tryz.func65, Tryz.ntmps65
  go_wp2
  go_ret
  first | exact ⟨⟨w.heap.size, 12, rfl, HO.out⟩, HB.out⟩ | exact ⟨⟨w.heap.size, rfl, 12, HO.out⟩, HB.out⟩
end Go.Proofs.YtlfedcbihbigoaaGreatDoor

namespace Go.Proofs.YtlfedcbihbigoaaGreatDoor
open Go.RowKit Go.WideMaps Go.Maps
theorem wf_int2 {o : Int} (h0 : 0 ≤ o) (h1 : o ≤ 100) : (Lit.int .i64 o).wf = true := by
  have e1 : IntKind.i64.min = -9223372036854775808 := by decide
  have e2 : IntKind.i64.max = 9223372036854775807 := by decide
  show (decide (IntKind.i64.min ≤ o) && decide (o ≤ IntKind.i64.max)) = true
  rw [e1, e2]
  simp; omega
def kbO (o : Int) : Option Bytes := if o = 16 then some [105, 115, 110, 117, 108, 108] else if o = 17 then some [105, 102] else if o = 18 then some [99, 111, 97, 108, 101, 115, 99, 101]
  else if o = 19 then some [108, 101, 110, 103, 116, 104] else if o = 20 then some wDay else none
theorem fnS_kb (o : Int) (y : Bytes) : fnS o y = (kbO o).getD y := by
  unfold fnS kbO
  repeat' split
  all_goals rfl
theorem kbO_has {o : Int} {kb : Bytes} (h : kbO o = some kb) : Maps.has biD (.string kb) = true := by
  rw [biD_has]
  unfold kbO at h
  repeat' split at h
  all_goals first | (cases h; done) | (injection h with h; subst h; rfl)
theorem bi_at {x : Bytes} {c : Int} (h : ∀ zd : DataW Unit, biD.atKey (.string x) zd = .lit (.int .i64 c)) : kbO c = some x := by
  rw [biD_is] at h
  have h0 := h (.lit (.bool true))
  by_cases h1 : x = [99, 111, 97, 108, 101, 115, 99, 101]
  · subst h1
    have : (DataW.lit (.int .i64 18) : DataW Unit) = .lit (.int .i64 c) := h0
    injection this with this; injection this with _ this; subst this; rfl
  by_cases h2 : x = [100, 97, 121]
  · subst h2
    have : (DataW.lit (.int .i64 20) : DataW Unit) = .lit (.int .i64 c) := h0
    injection this with this; injection this with _ this; subst this; rfl
  by_cases h3 : x = [105, 102]
  · subst h3
    have : (DataW.lit (.int .i64 17) : DataW Unit) = .lit (.int .i64 c) := h0
    injection this with this; injection this with _ this; subst this; rfl
  by_cases h4 : x = [105, 115, 110, 117, 108, 108]
  · subst h4
    have : (DataW.lit (.int .i64 16) : DataW Unit) = .lit (.int .i64 c) := h0
    injection this with this; injection this with _ this; subst this; rfl
  by_cases h5 : x = [108, 101, 110, 103, 116, 104]
  · subst h5
    have : (DataW.lit (.int .i64 19) : DataW Unit) = .lit (.int .i64 c) := h0
    injection this with this; injection this with _ this; subst this; rfl
  have e1 : (([99, 111, 97, 108, 101, 115, 99, 101] : Bytes) == x) = false := beq_eq_false_iff_ne.2 (fun e => h1 e.symm)
  have e2 : (([100, 97, 121] : Bytes) == x) = false := beq_eq_false_iff_ne.2 (fun e => h2 e.symm)
  have e3 : (([105, 102] : Bytes) == x) = false := beq_eq_false_iff_ne.2 (fun e => h3 e.symm)
  have e4 : (([105, 115, 110, 117, 108, 108] : Bytes) == x) = false := beq_eq_false_iff_ne.2 (fun e => h4 e.symm)
  have e5 : (([108, 101, 110, 103, 116, 104] : Bytes) == x) = false := beq_eq_false_iff_ne.2 (fun e => h5 e.symm)
  simp [DataW.atKey, same_key, e1, e2, e3, e4, e5] at h0
theorem key_str {P : Program} {k : TypeId} (hk : P.underlying k = some .string) {key : Value} {kl : Lit} (h : keyOf P k key = some kl) : ∃ s, key = .string s ∧ kl = .string (bs s) := by
  cases key <;> simp [keyOf, hk, mapKey] at h
  all_goals exact ⟨_, rfl, by first | exact h.2.symm | exact h.symm | (simp_all; done)⟩
/-- The name so far: the built-in one if its entry has been seen. -/
def NmRel (o : Int) (y : Bytes) (left : Lit → Bool) (s : Value) : Prop := ∀ kb, (kbO o = none → s = str y) ∧ (kbO o = some kb → s = (if left (.string kb) = true then str y else str kb))
theorem nm_start (o : Int) (y : Bytes) : NmRel o y (Maps.has biD) (str y) := fun kb => ⟨fun _ => rfl, fun h => by rw [if_pos (kbO_has h)]⟩
theorem nm_hit {o : Int} {y : Bytes} {left : Lit → Bool} {x : ByteArray} (h : kbO o = some (bs x)) : NmRel o y (fun z => left z && !z.sameKey (.string (bs x))) (.string x) := fun kb => ⟨fun h0 => by (rw [h] at h0; cases h0), fun h1 => by
  rw [h] at h1
  injection h1 with h1
  subst h1
  rw [if_neg (by simp [same_key])]
  unfold str; rw [mk_bs]⟩
theorem nm_miss {o c : Int} {y : Bytes} {left : Lit → Bool} {x : ByteArray} {s : Value} (h : NmRel o y left s) (hc : kbO c = some (bs x)) (hne : c ≠ o) : NmRel o y (fun z => left z && !z.sameKey (.string (bs x))) s := fun kb => ⟨(h kb).1, fun h1 => by
  have hk : (kb == bs x) = false := beq_eq_false_iff_ne.2 (fun e => by
    subst e
    apply hne
    unfold kbO at hc h1
    repeat' split at hc
    all_goals first | (cases hc; done) | skip
    all_goals
      repeat' split at h1
    all_goals first | (cases h1; done) | omega | (rw [← hc] at h1; cases h1; done) | (rw [← hc] at h1; simp [wDay] at h1; done))
  rw [(h kb).2 h1]
  simp [same_key, hk]⟩
theorem nm_end {o : Int} {y : Bytes} {left : Lit → Bool} {s : Value} (h : NmRel o y left s) (hl : ∀ kl, left kl = false) : s = str (fnS o y) := by
  rw [fnS_kb]
  cases hk : kbO o with
  | none => exact (h []).1 hk
  | some kb =>
    rw [(h kb).2 hk, if_neg (by rw [hl]; simp)]; rfl
theorem next_bi (w : World) {ops : Array Oper} {rest : List Oper} {o : Oper} {a : Act} {Q : Exit → Act → World → Prop} (hg : o.guard = none) (it : Operand) (hop : o.op = Op.next it false) (b r n : Nat) (left : Lit → Bool) (cnt : Nat)
    (hit : a.eval it = .pointer (some ⟨r, 0, none⟩)) (h : w.ranges Tryz.prog 9 (plainElem Tryz.prog 3) b r n biD left cnt)
    (hDone : (∀ kl, left kl = false) → wpList Tryz.prog ops Q rest (a.put o.dst (.tuple #[.bool false])) w)
    (hMore : ∀ (x : ByteArray) (c : Int) (w' : World) (cnt' : Nat), kbO c = some (bs x) → w'.ranges Tryz.prog 9 (plainElem Tryz.prog 3) b r n biD (fun z => left z && !z.sameKey (.string (bs x))) cnt' → cnt' < cnt →
      w.grownBy w' (some r) → w'.heap.size = w.heap.size → (Instr.entry (.pointer (some ⟨r, 0, none⟩))).run Tryz.prog w' = .ok (.tuple #[.string x, .int .i64 c]) w' → wpList Tryz.prog ops Q rest (a.put o.dst (.tuple #[.bool true, .string x, .int .i64 c])) w') :
    wpList Tryz.prog ops Q (o :: rest) a w :=
  wpList_next_ranges w hg it hop 9 lawStr (plainElem Tryz.prog 3) Value.string (Value.int .i64) (fun key kl hkey => by obtain ⟨x, rfl, _⟩ := key_str Tryz.underlying9 hkey; exact ⟨x, rfl⟩) (fun v y hv => by obtain ⟨c, rfl, _⟩ := plainElem_int_inv Tryz.underlying3 hv; exact ⟨c, rfl⟩)
    b r n biD left cnt hit h (fun _ hl => hDone hl) (fun x c kl y w' cnt' hkey hlk hv hat hrg hlt hgr hsz hen => by
      obtain ⟨x', ex, rfl⟩ := key_str Tryz.underlying9 hkey
      cases ex
      obtain ⟨c', ec, rfl, hwc⟩ := plainElem_int_inv Tryz.underlying3 hv
      cases ec
      exact hMore x c w' cnt' (bi_at hat) hrg hlt hgr hsz hen)
/-- strings.Join with a comma and a blank. -/
theorem join2_any (A : Option Addr) (c m : Nat) (l : List Bytes) (w : World) (base : Nat) (hm : l.length = m) (hm2 : m ≤ 1000000) (hown : w.ownsRow base 9 1 (.slice A m c) m (l.map str)) (hp : (List.intercalate [44, 32] l).length ≤ 131000000) :
    Calls Tryz.prog 69 #[.slice A m c, .string ⟨#[44, 32]⟩] w fun e w' => e = .returned (str (List.intercalate [44, 32] l)) ∧ Below w.heap.size w w' := by
  by_cases h0 : m = 0
  · subst h0
    obtain rfl : l = [] := List.eq_nil_of_length_eq_zero hm
    refine (Tryz.strings_Join_none A c ⟨#[44, 32]⟩ w).mono fun e w' ⟨he, hw⟩ => ⟨he, hw ▸ Below.refl _ _⟩
  · rcases hown.2 with ⟨hv, hn⟩ | ⟨g, cap, cur, hv, hg, hh, hnc, hcap, hsz, htk⟩
    · omega
    · have hv' := hv
      injection hv with h1 h2 h3
      subst h1 h3
      have hcell : ∀ j, j < m → w.cell? ⟨g, j, none⟩ = (l.map str)[j]? := fun j hj => by
        have := World.ownsRow.cellAt hown j (by omega)
        exact this
      have hx : (l.map fun t => (⟨t.toArray⟩ : ByteArray)).length = m := by simpa using hm
      have hj : Lib.join ((l.map fun t => (⟨t.toArray⟩ : ByteArray)).map (·.data.toList)) [44, 32] = List.intercalate [44, 32] l := by
        unfold Lib.join
        rw [List.map_map]
        congr 1
        conv => rhs; rw [← List.map_id l]
        rfl
      have key := Tryz.strings_Join g 0 c (l.map fun t => (⟨t.toArray⟩ : ByteArray)) ⟨#[44, 32]⟩ w (fun j x hx => ?_) (lt_of_heap hh) (by omega) (by omega) (by
        show (Lib.join _ [44, 32]).length ≤ _
        rw [hj]; omega)
      · rw [hx] at key
        refine key.mono fun e w' ⟨he, hb⟩ => ⟨?_, hb⟩
        rw [he]
        exact congrArg (fun l => Ending.returned (str l)) hj
      · have hjm : j < m := by
          have := (List.getElem?_eq_some_iff.1 hx).1
          simp at this; omega
        rw [Nat.zero_add, hcell j hjm]
        rw [List.getElem?_map] at hx ⊢
        cases ht : l[j]? with
        | none => rw [ht] at hx; simp at hx
        | some t => rw [ht] at hx; simp at hx; subst hx; rfl
def txV (l : List Pc) (k : Nat) : List Value := ((l.take k).map Pc.text).map str
theorem txV_succ (l : List Pc) (k : Nat) (h : k < l.length) : txV l (k + 1) = txV l k ++ [str l[k].text] := by
  unfold txV
  rw [List.take_succ_eq_append_getElem h, List.map_append, List.map_append]; rfl
end Go.Proofs.YtlfedcbihbigoaaGreatDoor
