/- Contracts: base.Moment, base.Value, base.Any: some valid value; base.constant. -/
import Derived.Test.YtlfedcbihbigoaaDoorExpV
import Derived.Laws.Rows
set_option linter.unusedVariables false
set_option linter.unusedSimpArgs false
namespace Go.Proofs.YtlfedcbihbigoaaDoor
open Go.RowKit
theorem mask_1 (i : Int) : bits .and .i64 i 1 = i % 2 := by
  show IntKind.i64.wrap ((BitVec.ofInt 64 i &&& BitVec.ofInt 64 1).toNat : Int) = _
  have h : (BitVec.ofInt 64 (1 : Int)).toNat = 2 ^ 1 - 1 := by decide
  rw [BitVec.toNat_and, h, Nat.and_two_pow_sub_one_eq_mod, IntKind.wrap_i64]
  simp only [BitVec.toNat_ofInt]
  omega
theorem mask_3 (i : Int) : bits .and .i64 i 3 = i % 4 := by
  show IntKind.i64.wrap ((BitVec.ofInt 64 i &&& BitVec.ofInt 64 3).toNat : Int) = _
  have h : (BitVec.ofInt 64 (3 : Int)).toNat = 2 ^ 2 - 1 := by decide
  rw [BitVec.toNat_and, h, Nat.and_two_pow_sub_one_eq_mod, IntKind.wrap_i64]
  simp only [BitVec.toNat_ofInt]
  omega
theorem mask_7 (i : Int) : bits .and .i64 i 7 = i % 8 := by
  show IntKind.i64.wrap ((BitVec.ofInt 64 i &&& BitVec.ofInt 64 7).toNat : Int) = _
  have h : (BitVec.ofInt 64 (7 : Int)).toNat = 2 ^ 3 - 1 := by decide
  rw [BitVec.toNat_and, h, Nat.and_two_pow_sub_one_eq_mod, IntKind.wrap_i64]
  simp only [BitVec.toNat_ofInt]
  omega
theorem mask_15 (i : Int) : bits .and .i64 i 15 = i % 16 := by
  show IntKind.i64.wrap ((BitVec.ofInt 64 i &&& BitVec.ofInt 64 15).toNat : Int) = _
  have h : (BitVec.ofInt 64 (15 : Int)).toNat = 2 ^ 4 - 1 := by decide
  rw [BitVec.toNat_and, h, Nat.and_two_pow_sub_one_eq_mod, IntKind.wrap_i64]
  simp only [BitVec.toNat_ofInt]
  omega
theorem mask_31 (i : Int) : bits .and .i64 i 31 = i % 32 := by
  show IntKind.i64.wrap ((BitVec.ofInt 64 i &&& BitVec.ofInt 64 31).toNat : Int) = _
  have h : (BitVec.ofInt 64 (31 : Int)).toNat = 2 ^ 5 - 1 := by decide
  rw [BitVec.toNat_and, h, Nat.and_two_pow_sub_one_eq_mod, IntKind.wrap_i64]
  simp only [BitVec.toNat_ofInt]
  omega
theorem box3set' {w : World} {B : Nat} {x y z : Value} (h0 : w.cell? ⟨B, 0, none⟩ = some x) (h1 : w.cell? ⟨B, 1, none⟩ = some y) (h2 : w.cell? ⟨B, 2, none⟩ = some z) (a b c : Value) :
    (w.setCell ⟨B, 0, none⟩ a).cell? ⟨B, 0, none⟩ = some a ∧ ((w.setCell ⟨B, 0, none⟩ a).setCell ⟨B, 1, none⟩ b).cell? ⟨B, 1, none⟩ = some b ∧ (((w.setCell ⟨B, 0, none⟩ a).setCell ⟨B, 1, none⟩ b).setCell ⟨B, 2, none⟩ c).cell? ⟨B, 2, none⟩ = some c := by
  refine ⟨World.cell?_setCell_same _ _ _ h0, World.cell?_setCell_same (u := y) _ _ _ ?_, World.cell?_setCell_same (u := z) _ _ _ ?_⟩
  · rw [World.cell?_setCell_other _ _ _ _ (by simp)]; exact h1
  · rw [World.cell?_setCell_other _ _ _ _ (by simp), World.cell?_setCell_other _ _ _ _ (by simp)]; exact h2
def InstIs (e : Ending) : Prop := ∃ t : Int, 0 ≤ t ∧ t ≤ 575999999 ∧ e = .returned (.int .i64 t)
theorem six_ints : ∀ m : Nat, m < 6 → ∃ x : Int, [Value.int .i64 0, Value.int .i64 1, Value.int .i64 575999999, Value.int .i64 575999998, Value.int .i64 1439, Value.int .i64 1440][m]? = some (.int .i64 x) ∧ 0 ≤ x ∧ x ≤ 575999999
  | 0, _ => ⟨_, rfl, by decide⟩
  | 1, _ => ⟨_, rfl, by decide⟩
  | 2, _ => ⟨_, rfl, by decide⟩
  | 3, _ => ⟨_, rfl, by decide⟩
  | 4, _ => ⟨_, rfl, by decide⟩
  | 5, _ => ⟨_, rfl, by decide⟩
  | m + 6, h => absurd h (by omega)
theorem six_strs : ∀ m : Nat, m < 6 → ∃ x : Bytes, [Value.string ⟨#[97]⟩, Value.string ⟨#[98]⟩, Value.string ⟨#[99]⟩, Value.string ⟨#[]⟩, Value.string ⟨#[105, 116, 39, 115]⟩, Value.string ⟨#[97, 32, 98]⟩][m]? = some (str x) ∧ x.length ≤ 4
  | 0, _ => ⟨[97], rfl, by decide⟩
  | 1, _ => ⟨[98], rfl, by decide⟩
  | 2, _ => ⟨[99], rfl, by decide⟩
  | 3, _ => ⟨[], rfl, by decide⟩
  | 4, _ => ⟨[105, 116, 39, 115], rfl, by decide⟩
  | 5, _ => ⟨[97, 32, 98], rfl, by decide⟩
  | m + 6, h => absurd h (by omega)
set_option maxHeartbeats 1000000 in
theorem base_Moment_any (n : Int) (w : World) : Calls Tryd.prog 48 #[.int .i64 n] w fun e w' => InstIs e ∧ Below w.heap.size w w' := by
  have hm := and_ffff n
  have h1 := mask_1
  have h3 := mask_3
  have h15 := mask_15
  go_enter Tryd.func48, Tryd.ntmps48
  obtain ⟨x, hx, x0, x1⟩ := six_ints (n % 65536 % 6).toNat (by omega)
  go_wp2
  · go_ret
    exact ⟨⟨x, x0, x1, rfl⟩, by (repeat (first | exact Below.refl _ _ | assumption | refine Below.drew ?_ | refine below_drewN ?_ _ | refine Below.alloc ?_ (by first | omega | (simp; done) | (simp; omega)) _ | refine Below.setCell ?_ (by first | omega | (simp; done) | (simp; omega)) _))⟩
  · go_ret
    exact ⟨⟨_, by omega, by omega, rfl⟩, by (repeat (first | exact Below.refl _ _ | assumption | refine Below.drew ?_ | refine below_drewN ?_ _ | refine Below.alloc ?_ (by first | omega | (simp; done) | (simp; omega)) _ | refine Below.setCell ?_ (by first | omega | (simp; done) | (simp; omega)) _))⟩
def ValIs (e : Ending) : Prop := ∃ v : Vl, validV v.kind v.num v.text = true ∧ e = .returned v.agg
set_option maxRecDepth 100000 in
set_option maxHeartbeats 2000000 in
theorem base_Value_any (k n : Int) (w : World) : Calls Tryd.prog 31 #[.int .i64 k, .int .i64 n] w fun e w' => ValIs e ∧ Below w.heap.size w w' := by
  have hm := and_ffff n
  have h1 := mask_1
  have h3 := mask_3
  have h31 := mask_31
  obtain ⟨x, hx, x0⟩ := six_strs (n % 65536 % 6).toNat (by omega)
  go_enter Tryd.func31, Tryd.ntmps31
  go_wp2_with (go_at_call 48; refine (base_Moment_any _ _).mono ?_; rintro e w1 ⟨⟨t, t0, t1, rfl⟩, hb1⟩; have hh := heap_of_below (B := w.heap.size + 1) (by simpa using hb1) (Nat.lt_succ_self _); have r0 : w1.cell? ⟨w.heap.size, 0, none⟩ = some (.int .i64 0) := (by rw [cell_of_heap hh]; rfl); have r1 : w1.cell? ⟨w.heap.size, 1, none⟩ = some (.int .i64 0) := (by rw [cell_of_heap hh]; rfl); have r2 : w1.cell? ⟨w.heap.size, 2, none⟩ = some (str []) := (by rw [cell_of_heap hh]; rfl); have fr : ∀ i, w1.frozen? ⟨w.heap.size, i, none⟩ = false := (fun i => free_of_heap hh i); have hb2 : Below w.heap.size w w1 := Below.trans (by (repeat (first | exact Below.refl _ _ | assumption | refine Below.drew ?_ | refine below_drewN ?_ _ | refine Below.alloc ?_ (by first | omega | (simp; done) | (simp; omega)) _ | refine Below.setCell ?_ (by first | omega | (simp; done) | (simp; omega)) _))) (hb1.mono (by simp)); clear hb1 hh)
  · refine bodyPost_ret (v := (⟨1, n % 2, []⟩ : Vl).agg) (by simp [results, Tryd.results31, go_sem]) rfl ⟨⟨⟨1, n % 2, []⟩, by show validV 1 (n % 2) [] = true; unfold validV; simp; omega, rfl⟩, by (repeat (first | exact Below.refl _ _ | assumption | refine Below.drew ?_ | refine below_drewN ?_ _ | refine Below.alloc ?_ (by first | omega | (simp; done) | (simp; omega)) _ | refine Below.setCell ?_ (by first | omega | (simp; done) | (simp; omega)) _))⟩
  · refine bodyPost_ret (v := (⟨2, 1073741824 - n % 2, []⟩ : Vl).agg) (by simp [results, Tryd.results31, go_sem]) rfl ⟨⟨⟨2, 1073741824 - n % 2, []⟩, by show validV 2 (1073741824 - n % 2) [] = true; unfold validV; simp; omega, rfl⟩, by (repeat (first | exact Below.refl _ _ | assumption | refine Below.drew ?_ | refine below_drewN ?_ _ | refine Below.alloc ?_ (by first | omega | (simp; done) | (simp; omega)) _ | refine Below.setCell ?_ (by first | omega | (simp; done) | (simp; omega)) _))⟩
  · refine bodyPost_ret (v := (⟨2, n % 4 - 1073741824, []⟩ : Vl).agg) (by simp [results, Tryd.results31, go_sem]) rfl ⟨⟨⟨2, n % 4 - 1073741824, []⟩, by show validV 2 (n % 4 - 1073741824) [] = true; unfold validV; simp; omega, rfl⟩, by (repeat (first | exact Below.refl _ _ | assumption | refine Below.drew ?_ | refine below_drewN ?_ _ | refine Below.alloc ?_ (by first | omega | (simp; done) | (simp; omega)) _ | refine Below.setCell ?_ (by first | omega | (simp; done) | (simp; omega)) _))⟩
  · refine bodyPost_ret (v := (⟨2, n % 65536 % 7 - 2, []⟩ : Vl).agg) (by simp [results, Tryd.results31, go_sem]) rfl ⟨⟨⟨2, n % 65536 % 7 - 2, []⟩, by show validV 2 (n % 65536 % 7 - 2) [] = true; unfold validV; simp; omega, rfl⟩, by (repeat (first | exact Below.refl _ _ | assumption | refine Below.drew ?_ | refine below_drewN ?_ _ | refine Below.alloc ?_ (by first | omega | (simp; done) | (simp; omega)) _ | refine Below.setCell ?_ (by first | omega | (simp; done) | (simp; omega)) _))⟩
  · refine bodyPost_ret (v := (⟨3, 0, x⟩ : Vl).agg) (by simp [results, Tryd.results31, go_sem]) rfl ⟨⟨⟨3, 0, x⟩, by show validV 3 0 x = true; unfold validV; simp; omega, rfl⟩, by (repeat (first | exact Below.refl _ _ | assumption | refine Below.drew ?_ | refine below_drewN ?_ _ | refine Below.alloc ?_ (by first | omega | (simp; done) | (simp; omega)) _ | refine Below.setCell ?_ (by first | omega | (simp; done) | (simp; omega)) _))⟩
  · obtain ⟨s0, s1, s2⟩ := box3set' r0 r1 r2 (.int .i64 4) (.int .i64 t) (.string ⟨#[]⟩)
    refine bodyPost_ret (v := (⟨4, t, []⟩ : Vl).agg) (by simp [results, Tryd.results31, go_sem, s0, s1, s2]) rfl ⟨⟨⟨4, t, []⟩, by show validV 4 t [] = true; unfold validV; simp; omega, rfl⟩, by (repeat (first | exact Below.refl _ _ | assumption | refine Below.drew ?_ | refine below_drewN ?_ _ | refine Below.alloc ?_ (by first | omega | (simp; done) | (simp; omega)) _ | refine Below.setCell ?_ (by first | omega | (simp; done) | (simp; omega)) _))⟩
  · refine bodyPost_ret (v := (⟨0, 0, []⟩ : Vl).agg) (by simp [results, Tryd.results31, go_sem]) rfl ⟨⟨⟨0, 0, []⟩, rfl, rfl⟩, by (repeat (first | exact Below.refl _ _ | assumption | refine Below.drew ?_ | refine below_drewN ?_ _ | refine Below.alloc ?_ (by first | omega | (simp; done) | (simp; omega)) _ | refine Below.setCell ?_ (by first | omega | (simp; done) | (simp; omega)) _))⟩
theorem resbox3 {w w1 : World} {a b c : Value} {t : TypeId} (h : Below (w.alloc (.cells #[a, b, c] t)).heap.size (w.alloc (.cells #[a, b, c] t)) w1) :
    w1.cell? ⟨w.heap.size, 0, none⟩ = some a ∧ w1.cell? ⟨w.heap.size, 1, none⟩ = some b ∧ w1.cell? ⟨w.heap.size, 2, none⟩ = some c ∧ (∀ i, w1.frozen? ⟨w.heap.size, i, none⟩ = false) ∧ Below w.heap.size w w1 := by
  have hh := heap_of_below (B := w.heap.size + 1) (by simpa using h) (Nat.lt_succ_self _)
  exact ⟨by rw [cell_of_heap hh]; rfl, by rw [cell_of_heap hh]; rfl, by rw [cell_of_heap hh]; rfl, fun i => free_of_heap hh i, box_below (by simpa using h)⟩
theorem base_Any_any (n : Int) (w : World) (h0 : 0 ≤ n) : Calls Tryd.prog 20 #[.int .i64 n] w fun e w' => ValIs e ∧ Below w.heap.size w w' := by
  go_enter Tryd.func20, Tryd.ntmps20
  go_wp2_with (go_at_call 31; refine (base_Value_any _ _ _).mono ?_; rintro e w1 ⟨⟨v, hv, rfl⟩, hb1⟩; obtain ⟨r0, r1, r2, fr, hb2⟩ := resbox3 hb1; clear hb1)
  obtain ⟨s0, s1, s2⟩ := box3set' r0 r1 r2 (.int .i64 v.kind) (.int .i64 v.num) (.string ⟨v.text.toArray⟩)
  refine bodyPost_ret (v := v.agg) (by simp [results, Tryd.results20, go_sem, s0, s1, s2]) rfl ⟨⟨v, hv, rfl⟩, by (repeat (first | exact Below.refl _ _ | assumption | refine Below.drew ?_ | refine below_drewN ?_ _ | refine Below.alloc ?_ (by first | omega | (simp; done) | (simp; omega)) _ | refine Below.setCell ?_ (by first | omega | (simp; done) | (simp; omega)) _))⟩
/-- A slice of these nodes that the call has made. -/
def OwnNds (w w' : World) (es : List Nd) (e : Ending) : Prop :=
  ∃ (A : Option Addr) (c : Nat), e = .returned (.slice A es.length c) ∧ w'.ownsRow w.heap.size 26 6 (.slice A es.length c) es.length (ndCells es)
theorem own_fresh (w : World) {base e size n : Nat} {cur : Array Value} (hb : base ≤ w.heap.size) (hs : cur.size = n * size) (hm : n ≤ maxLen) :
    (w.alloc (.cells cur e)).ownsRow base e size (.slice (some ⟨w.heap.size, 0, none⟩) n n) n cur.toList :=
  ⟨by simpa using hs, .inr ⟨w.heap.size, n, cur, rfl, hb, heap_alloc_new w _, Nat.le_refl _, hm, hs, by rw [List.take_of_length_le (by simp [hs])]⟩⟩
theorem base_constant_any (v : Vl) (w : World) : Calls Tryd.prog 49 #[v.agg] w fun e w' => OwnNds w w' [⟨0, v, [], 0⟩] e ∧ Below w.heap.size w w' := by
  have HO := hide (own_fresh (w.alloc (.cells #[.int .i64 v.kind, .int .i64 v.num, str v.text] 24)) (base := w.heap.size) (e := 26) (size := 6) (n := 1) (cur := #[.int .i64 0, .int .i64 v.kind, .int .i64 v.num, str v.text, str [], .int .i64 0]) (by simp) (by simp) (by decide))
  go_enter Tryd.func49, Tryd.ntmps49
  go_wp2
  go_ret
  refine ⟨⟨_, 1, by first | rfl | (simp; done), HO.out⟩, by (repeat (first | exact Below.refl _ _ | assumption | refine Below.drew ?_ | refine below_drewN ?_ _ | refine Below.alloc ?_ (by first | omega | (simp; done) | (simp; omega)) _ | refine Below.setCell ?_ (by first | omega | (simp; done) | (simp; omega)) _))⟩
structure Col where
  name : Bytes
  kind : Int
  null : Bool
def ColAt (w : World) (g off : Nat) (c : Col) : Prop := w.cell? ⟨g, off, none⟩ = some (str c.name) ∧ w.cell? ⟨g, off + 1, none⟩ = some (.int .i64 c.kind) ∧ w.cell? ⟨g, off + 2, none⟩ = some (.bool c.null)
/-- A slice that reads as a list of columns. -/
def ColsAt (w : World) (A : Option Addr) (cs : List Col) : Prop :=
  cs = [] ∨ ∃ g off, A = some ⟨g, off, none⟩ ∧ g < w.heap.size ∧ ∀ i (h : i < cs.length), ColAt w g (off + i * 3) cs[i]
theorem ColsAt.below {w w' : World} {A : Option Addr} {cs : List Col} (h : ColsAt w A cs) (hb : Below w.heap.size w w') : ColsAt w' A cs := by
  rcases h with h | ⟨g, off, hA, hg, hc⟩
  · exact .inl h
  · refine .inr ⟨g, off, hA, Nat.lt_of_lt_of_le hg hb.size, fun i hi => ?_⟩
    obtain ⟨h1, h2, h3⟩ := hc i hi
    exact ⟨(hb.cell (p := ⟨g, _, none⟩) hg).trans h1, (hb.cell (p := ⟨g, _, none⟩) hg).trans h2, (hb.cell (p := ⟨g, _, none⟩) hg).trans h3⟩
def colNm (cs : List Col) : List Bytes := cs.map Col.name
def ColsOk (cs : List Col) : Prop := ∀ c ∈ cs, isNameB 24 c.name = true ∧ resB c.name = false
def LeafIs (cs : List Col) (w w' : World) (e : Ending) : Prop := ∃ n : Nd, n.ok = true ∧ n.ar = 0 ∧ (n.op = 1 → n.name ∈ colNm cs) ∧ OwnNds w w' [n] e
theorem own_low {w : World} {base b2 e size n : Nat} {v : Value} {xs : List Value} (h : w.ownsRow base e size v n xs) (hb : b2 ≤ base) : w.ownsRow b2 e size v n xs :=
  ⟨h.1, h.2.elim .inl fun ⟨g, cap, cur, a, b, r⟩ => .inr ⟨g, cap, cur, a, Nat.le_trans hb b, r⟩⟩
theorem const_ok {v : Vl} (h : validV v.kind v.num v.text = true) : (⟨0, v, [], 0⟩ : Nd).ok = true := by
  show shapedN 0 v.kind v.num v.text [] 0 = true
  rw [shapedN_0, h]; rfl
theorem col_ok {cs : List Col} (h : ColsOk cs) {c : Col} (hc : c ∈ cs) : (⟨1, vl0, c.name, 0⟩ : Nd).ok = true := by
  obtain ⟨h1, h2⟩ := h c hc
  show shapedN 1 0 0 [] c.name 0 = true
  rw [shapedN_1, h1, h2]; rfl
set_option maxRecDepth 100000 in
set_option maxHeartbeats 2000000 in
theorem base_leaf_any (k n : Int) (A : Option Addr) (cs : List Col) (cc : Nat) (w : World) (h : ColsAt w A cs) (hk : ColsOk cs) (hl : cs.length ≤ 1000) (h0 : 0 ≤ n) (h1 : n ≤ 1000000000000) :
    Calls Tryd.prog 32 #[.int .i64 k, .slice A cs.length cc, .int .i64 n] w fun e w' => LeafIs cs w w' e ∧ Below w.heap.size w w' := by
  have HA := hide h; have HK := hide hk
  clear h hk
  go_enter Tryd.func32, Tryd.ntmps32
  go_wp2
  go_loopw [7] (fun i wr => ∃ j : Nat, j ≤ cs.length ∧ i = .int .i64 j ∧ Below w.heap.size w wr) (fun i _ => cs.length - (intOf i).toNat)
  case atStart => exact ⟨0, by omega, rfl, Below.refl _ _⟩
  case round =>
    obtain ⟨j, hj, rfl, hbel⟩ := hrel
    have hsz := hbel.size
    by_cases hlt : j < cs.length
    · by_cases hn : 0 < n % 4
      · rcases HA.out.below hbel with e | ⟨g, off, rfl, hg, hc⟩
        · exact absurd hlt (by rw [e]; simp)
        have y0 : 0 ≤ (n / 4 + (j : Int)) % (cs.length : Int) := Int.emod_nonneg _ (by omega)
        have y1 : (n / 4 + (j : Int)) % (cs.length : Int) < (cs.length : Int) := Int.emod_lt_of_pos _ (by omega)
        obtain ⟨m, hm⟩ : ∃ m : Nat, (n / 4 + (j : Int)) % (cs.length : Int) = m := ⟨((n / 4 + (j : Int)) % (cs.length : Int)).toNat, by omega⟩
        have hml : m < cs.length := by omega
        have hcol := hc m hml
        have hok := col_ok HK.out (List.getElem_mem hml)
        have hin : cs[m].name ∈ colNm cs := List.mem_map.2 ⟨cs[m], List.getElem_mem hml, rfl⟩
        clear hc y0 y1
        generalize cs[m] = x at *
        obtain ⟨c0, c1, c2⟩ := hcol
        have HOk := hide (And.intro hok hin)
        clear hok hin
        have hz : ((cs.length : Int) == 0) = false := beq_eq_false_iff_ne.2 (by omega)
        have HO := hide (own_fresh (wr.alloc (.cells #[str x.name, .int .i64 x.kind, .bool x.null] 61)) (base := w.heap.size) (e := 26) (size := 6) (n := 1) (cur := #[.int .i64 1, .int .i64 0, .int .i64 0, str [], str x.name, .int .i64 0]) (by simp; omega) (by simp) (by decide))
        go_wp2
        · go_ret
          exact ⟨⟨⟨1, vl0, x.name, 0⟩, HOk.out.1, rfl, fun _ => HOk.out.2, _, 1, by first | rfl | (simp; done), HO.out⟩, by (repeat (first | exact Below.refl _ _ | assumption | refine Below.drew ?_ | refine below_drewN ?_ _ | refine Below.alloc ?_ (by first | omega | (simp; done) | (simp; omega)) _ | refine Below.setCell ?_ (by first | omega | (simp; done) | (simp; omega)) _))⟩
        · exact ⟨⟨j + 1, by omega, by go_num, by (repeat (first | exact Below.refl _ _ | assumption | refine Below.drew ?_ | refine below_drewN ?_ _ | refine Below.alloc ?_ (by first | omega | (simp; done) | (simp; omega)) _ | refine Below.setCell ?_ (by first | omega | (simp; done) | (simp; omega)) _))⟩, by simp [intOf]; omega⟩
      · by_cases h16 : n % 16 = 0
        · go_wp2_with fail
          refine (base_constant_any vl0 _).mono ?_
          rintro e w1 ⟨⟨A1, c1, rfl, hown⟩, hb1⟩
          go_wp2
          go_ret
          exact ⟨⟨_, const_ok (v := vl0) rfl, rfl, (fun e => by cases e), A1, c1, rfl, own_low hown hsz⟩, bel2 hb1 hbel⟩
        · have h16b : (n % 16 == 0) = false := beq_eq_false_iff_ne.2 h16
          go_wp2_with fail
          refine (base_Value_any _ _ _).mono ?_
          rintro e w1 ⟨⟨v, hv, rfl⟩, hb1⟩
          have hs1 := hb1.size
          go_wp2_with fail
          refine (base_constant_any v _).mono ?_
          rintro e w2 ⟨⟨A1, c1, rfl, hown⟩, hb2⟩
          go_wp2
          go_ret
          exact ⟨⟨_, const_ok hv, rfl, (fun e => by cases e), A1, c1, rfl, own_low hown (by omega)⟩, bel2 hb2 (bel2 hb1 hbel)⟩
    · by_cases h16 : n % 16 = 0
      · go_wp2_with fail
        refine (base_constant_any vl0 _).mono ?_
        rintro e w1 ⟨⟨A1, c1, rfl, hown⟩, hb1⟩
        go_wp2
        go_ret
        exact ⟨⟨_, const_ok (v := vl0) rfl, rfl, (fun e => by cases e), A1, c1, rfl, own_low hown hsz⟩, bel2 hb1 hbel⟩
      · have h16b : (n % 16 == 0) = false := beq_eq_false_iff_ne.2 h16
        go_wp2_with fail
        refine (base_Value_any _ _ _).mono ?_
        rintro e w1 ⟨⟨v, hv, rfl⟩, hb1⟩
        have hs1 := hb1.size
        go_wp2_with fail
        refine (base_constant_any v _).mono ?_
        rintro e w2 ⟨⟨A1, c1, rfl, hown⟩, hb2⟩
        go_wp2
        go_ret
        exact ⟨⟨_, const_ok hv, rfl, (fun e => by cases e), A1, c1, rfl, own_low hown (by omega)⟩, bel2 hb2 (bel2 hb1 hbel)⟩
end Go.Proofs.YtlfedcbihbigoaaDoor
