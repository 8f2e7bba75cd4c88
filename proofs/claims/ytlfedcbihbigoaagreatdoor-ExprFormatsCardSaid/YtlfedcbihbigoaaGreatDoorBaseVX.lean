/- Contracts: base.Moment, base.Value, base.Any: some valid value; base.constant. Contracts: base.apply. Plain: what a valid list of nodes says of each prefix; names' lengths; small facts of rows and blocks. -/
import Derived.Test.YtlfedcbihbigoaaGreatDoorExpV
import Derived.Laws.Rows
set_option linter.unusedVariables false
set_option linter.unusedSimpArgs false
namespace Go.Proofs.YtlfedcbihbigoaaGreatDoor
open Go.RowKit
theorem mask_1 (i : Int) : bits .and .i64 i 1 = i % 2 := by
  show IntKind.i64.wrap ((BitVec.ofInt 64 i &&& BitVec.ofInt 64 1).toNat : Int) = _
  have h : (BitVec.ofInt 64 (1 : Int)).toNat = 2 ^ 1 - 1 := by decide
  rw [BitVec.toNat_and, h, Nat.and_two_pow_sub_one_eq_mod, IntKind.wrap_i64]
  simp only [BitVec.toNat_ofInt]
  omega
theorem mask_3 (i : Int) : bits .and .i64 i 3 = i % 4 := by
  show IntKind.i64.wrap ((BitVec.ofInt 64 i &&& BitVec.ofInt 64 3).toNat : Int) = _
  have h : (BitVec.ofInt 64 (3 : Int)).toNat = 2 ^ 2 - 1 := by decide
  rw [BitVec.toNat_and, h, Nat.and_two_pow_sub_one_eq_mod, IntKind.wrap_i64]
  simp only [BitVec.toNat_ofInt]
  omega
theorem mask_7 (i : Int) : bits .and .i64 i 7 = i % 8 := by
  show IntKind.i64.wrap ((BitVec.ofInt 64 i &&& BitVec.ofInt 64 7).toNat : Int) = _
  have h : (BitVec.ofInt 64 (7 : Int)).toNat = 2 ^ 3 - 1 := by decide
  rw [BitVec.toNat_and, h, Nat.and_two_pow_sub_one_eq_mod, IntKind.wrap_i64]
  simp only [BitVec.toNat_ofInt]
  omega
theorem mask_15 (i : Int) : bits .and .i64 i 15 = i % 16 := by
  show IntKind.i64.wrap ((BitVec.ofInt 64 i &&& BitVec.ofInt 64 15).toNat : Int) = _
  have h : (BitVec.ofInt 64 (15 : Int)).toNat = 2 ^ 4 - 1 := by decide
  rw [BitVec.toNat_and, h, Nat.and_two_pow_sub_one_eq_mod, IntKind.wrap_i64]
  simp only [BitVec.toNat_ofInt]
  omega
theorem mask_31 (i : Int) : bits .and .i64 i 31 = i % 32 := by
  show IntKind.i64.wrap ((BitVec.ofInt 64 i &&& BitVec.ofInt 64 31).toNat : Int) = _
  have h : (BitVec.ofInt 64 (31 : Int)).toNat = 2 ^ 5 - 1 := by decide
  rw [BitVec.toNat_and, h, Nat.and_two_pow_sub_one_eq_mod, IntKind.wrap_i64]
  simp only [BitVec.toNat_ofInt]
  omega
theorem box3set' {w : World} {B : Nat} {x y z : Value} (h0 : w.cell? ⟨B, 0, none⟩ = some x) (h1 : w.cell? ⟨B, 1, none⟩ = some y) (h2 : w.cell? ⟨B, 2, none⟩ = some z) (a b c : Value) :
    (w.setCell ⟨B, 0, none⟩ a).cell? ⟨B, 0, none⟩ = some a ∧ ((w.setCell ⟨B, 0, none⟩ a).setCell ⟨B, 1, none⟩ b).cell? ⟨B, 1, none⟩ = some b ∧ (((w.setCell ⟨B, 0, none⟩ a).setCell ⟨B, 1, none⟩ b).setCell ⟨B, 2, none⟩ c).cell? ⟨B, 2, none⟩ = some c := by
  refine ⟨World.cell?_setCell_same _ _ _ h0, World.cell?_setCell_same (u := y) _ _ _ ?_, World.cell?_setCell_same (u := z) _ _ _ ?_⟩
  · rw [World.cell?_setCell_other _ _ _ _ (by simp)]; exact h1
  · rw [World.cell?_setCell_other _ _ _ _ (by simp), World.cell?_setCell_other _ _ _ _ (by simp)]; exact h2
def InstIs (e : Ending) : Prop := ∃ t : Int, 0 ≤ t ∧ t ≤ 575999999 ∧ e = .returned (.int .i64 t)
theorem six_ints : ∀ m : Nat, m < 6 → ∃ x : Int, [Value.int .i64 0, Value.int .i64 1, Value.int .i64 575999999, Value.int .i64 575999998, Value.int .i64 1439, Value.int .i64 1440][m]? = some (.int .i64 x) ∧ 0 ≤ x ∧ x ≤ 575999999
  | 0, _ => ⟨_, rfl, by decide⟩
  | 1, _ => ⟨_, rfl, by decide⟩
  | 2, _ => ⟨_, rfl, by decide⟩
  | 3, _ => ⟨_, rfl, by decide⟩
  | 4, _ => ⟨_, rfl, by decide⟩
  | 5, _ => ⟨_, rfl, by decide⟩
  | m + 6, h => absurd h (by omega)
theorem six_strs : ∀ m : Nat, m < 6 → ∃ x : Bytes, [Value.string ⟨#[97]⟩, Value.string ⟨#[98]⟩, Value.string ⟨#[99]⟩, Value.string ⟨#[]⟩, Value.string ⟨#[105, 116, 39, 115]⟩, Value.string ⟨#[97, 32, 98]⟩][m]? = some (str x) ∧ x.length ≤ 4
  | 0, _ => ⟨[97], rfl, by decide⟩
  | 1, _ => ⟨[98], rfl, by decide⟩
  | 2, _ => ⟨[99], rfl, by decide⟩
  | 3, _ => ⟨[], rfl, by decide⟩
  | 4, _ => ⟨[105, 116, 39, 115], rfl, by decide⟩
  | 5, _ => ⟨[97, 32, 98], rfl, by decide⟩
  | m + 6, h => absurd h (by omega)
set_option maxHeartbeats 1000000 in
theorem base_Moment_any (n : Int) (w : World) : Calls Tryz.prog 104 #[.int .i64 n] w fun e w' => InstIs e ∧ Below w.heap.size w w' := by
  have hm := and_ffff n
  have h1 := mask_1
  have h3 := mask_3
  have h15 := mask_15
  go_enter Tryz.func104, Tryz.ntmps104
  obtain ⟨x, hx, x0, x1⟩ := six_ints (n % 65536 % 6).toNat (by omega)
  go_wp2
  · go_ret
    exact ⟨⟨x, x0, x1, rfl⟩, by (repeat (first | exact Below.refl _ _ | assumption | refine Below.drew ?_ | refine below_drewN ?_ _ | refine Below.alloc ?_ (by first | omega | simp <;> omega) _ | refine Below.setCell ?_ (by first | omega | simp <;> omega) _))⟩
  · go_ret
    exact ⟨⟨_, by omega, by omega, rfl⟩, by (repeat (first | exact Below.refl _ _ | assumption | refine Below.drew ?_ | refine below_drewN ?_ _ | refine Below.alloc ?_ (by first | omega | simp <;> omega) _ | refine Below.setCell ?_ (by first | omega | simp <;> omega) _))⟩
def ValIs (e : Ending) : Prop := ∃ v : Vl, validV v.kind v.num v.text = true ∧ e = .returned v.agg
set_option maxRecDepth 100000 in
set_option maxHeartbeats 2000000 in
theorem base_Value_any (k n : Int) (w : World) : Calls Tryz.prog 70 #[.int .i64 k, .int .i64 n] w fun e w' => ValIs e ∧ Below w.heap.size w w' := by
  have hm := and_ffff n
  have h1 := mask_1
  have h3 := mask_3
  have h31 := mask_31
  obtain ⟨x, hx, x0⟩ := six_strs (n % 65536 % 6).toNat (by omega)
  go_enter Tryz.func70, Tryz.ntmps70
  go_wp2_with (go_at_call 104; refine (base_Moment_any _ _).mono ?_; rintro e w1 ⟨⟨t, t0, t1, rfl⟩, hb1⟩; have hh := heap_of_below (B := w.heap.size + 1) (by simpa using hb1) (Nat.lt_succ_self _); have r0 : w1.cell? ⟨w.heap.size, 0, none⟩ = some (.int .i64 0) := (by rw [cell_of_heap hh]; rfl); have r1 : w1.cell? ⟨w.heap.size, 1, none⟩ = some (.int .i64 0) := (by rw [cell_of_heap hh]; rfl); have r2 : w1.cell? ⟨w.heap.size, 2, none⟩ = some (str []) := (by rw [cell_of_heap hh]; rfl); have fr : ∀ i, w1.frozen? ⟨w.heap.size, i, none⟩ = false := (fun i => free_of_heap hh i); have hb2 : Below w.heap.size w w1 := Below.trans (by (repeat (first | exact Below.refl _ _ | assumption | refine Below.drew ?_ | refine below_drewN ?_ _ | refine Below.alloc ?_ (by first | omega | simp <;> omega) _ | refine Below.setCell ?_ (by first | omega | simp <;> omega) _))) (hb1.mono (by simp)); clear hb1 hh)
  · refine bodyPost_ret (v := (⟨1, n % 2, []⟩ : Vl).agg) (by simp [results, Tryz.results70, go_sem]) rfl ⟨⟨⟨1, n % 2, []⟩, by show validV 1 (n % 2) [] = true; unfold validV; simp; omega, rfl⟩, by (repeat (first | exact Below.refl _ _ | assumption | refine Below.drew ?_ | refine below_drewN ?_ _ | refine Below.alloc ?_ (by first | omega | simp <;> omega) _ | refine Below.setCell ?_ (by first | omega | simp <;> omega) _))⟩
  · refine bodyPost_ret (v := (⟨2, 1073741824 - n % 2, []⟩ : Vl).agg) (by simp [results, Tryz.results70, go_sem]) rfl ⟨⟨⟨2, 1073741824 - n % 2, []⟩, by show validV 2 (1073741824 - n % 2) [] = true; unfold validV; simp; omega, rfl⟩, by (repeat (first | exact Below.refl _ _ | assumption | refine Below.drew ?_ | refine below_drewN ?_ _ | refine Below.alloc ?_ (by first | omega | simp <;> omega) _ | refine Below.setCell ?_ (by first | omega | simp <;> omega) _))⟩
  · refine bodyPost_ret (v := (⟨2, n % 4 - 1073741824, []⟩ : Vl).agg) (by simp [results, Tryz.results70, go_sem]) rfl ⟨⟨⟨2, n % 4 - 1073741824, []⟩, by show validV 2 (n % 4 - 1073741824) [] = true; unfold validV; simp; omega, rfl⟩, by (repeat (first | exact Below.refl _ _ | assumption | refine Below.drew ?_ | refine below_drewN ?_ _ | refine Below.alloc ?_ (by first | omega | simp <;> omega) _ | refine Below.setCell ?_ (by first | omega | simp <;> omega) _))⟩
  · refine bodyPost_ret (v := (⟨2, n % 65536 % 7 - 2, []⟩ : Vl).agg) (by simp [results, Tryz.results70, go_sem]) rfl ⟨⟨⟨2, n % 65536 % 7 - 2, []⟩, by show validV 2 (n % 65536 % 7 - 2) [] = true; unfold validV; simp; omega, rfl⟩, by (repeat (first | exact Below.refl _ _ | assumption | refine Below.drew ?_ | refine below_drewN ?_ _ | refine Below.alloc ?_ (by first | omega | simp <;> omega) _ | refine Below.setCell ?_ (by first | omega | simp <;> omega) _))⟩
  · refine bodyPost_ret (v := (⟨3, 0, x⟩ : Vl).agg) (by simp [results, Tryz.results70, go_sem]) rfl ⟨⟨⟨3, 0, x⟩, by show validV 3 0 x = true; unfold validV; simp; omega, rfl⟩, by (repeat (first | exact Below.refl _ _ | assumption | refine Below.drew ?_ | refine below_drewN ?_ _ | refine Below.alloc ?_ (by first | omega | simp <;> omega) _ | refine Below.setCell ?_ (by first | omega | simp <;> omega) _))⟩
  · obtain ⟨s0, s1, s2⟩ := box3set' r0 r1 r2 (.int .i64 4) (.int .i64 t) (.string ⟨#[]⟩)
    refine bodyPost_ret (v := (⟨4, t, []⟩ : Vl).agg) (by simp [results, Tryz.results70, go_sem, s0, s1, s2]) rfl ⟨⟨⟨4, t, []⟩, by show validV 4 t [] = true; unfold validV; simp; omega, rfl⟩, by (repeat (first | exact Below.refl _ _ | assumption | refine Below.drew ?_ | refine below_drewN ?_ _ | refine Below.alloc ?_ (by first | omega | simp <;> omega) _ | refine Below.setCell ?_ (by first | omega | simp <;> omega) _))⟩
  · refine bodyPost_ret (v := (⟨0, 0, []⟩ : Vl).agg) (by simp [results, Tryz.results70, go_sem]) rfl ⟨⟨⟨0, 0, []⟩, rfl, rfl⟩, by (repeat (first | exact Below.refl _ _ | assumption | refine Below.drew ?_ | refine below_drewN ?_ _ | refine Below.alloc ?_ (by first | omega | simp <;> omega) _ | refine Below.setCell ?_ (by first | omega | simp <;> omega) _))⟩
theorem resbox3 {w w1 : World} {a b c : Value} {t : TypeId} (h : Below (w.alloc (.cells #[a, b, c] t)).heap.size (w.alloc (.cells #[a, b, c] t)) w1) :
    w1.cell? ⟨w.heap.size, 0, none⟩ = some a ∧ w1.cell? ⟨w.heap.size, 1, none⟩ = some b ∧ w1.cell? ⟨w.heap.size, 2, none⟩ = some c ∧ (∀ i, w1.frozen? ⟨w.heap.size, i, none⟩ = false) ∧ Below w.heap.size w w1 := by
  have hh := heap_of_below (B := w.heap.size + 1) (by simpa using h) (Nat.lt_succ_self _)
  exact ⟨by rw [cell_of_heap hh]; rfl, by rw [cell_of_heap hh]; rfl, by rw [cell_of_heap hh]; rfl, fun i => free_of_heap hh i, box_below (by simpa using h)⟩
theorem base_Any_any (n : Int) (w : World) (h0 : 0 ≤ n) : Calls Tryz.prog 37 #[.int .i64 n] w fun e w' => ValIs e ∧ Below w.heap.size w w' := by
  go_enter Tryz.func37, Tryz.ntmps37
  go_wp2_with (go_at_call 70; refine (base_Value_any _ _ _).mono ?_; rintro e w1 ⟨⟨v, hv, rfl⟩, hb1⟩; obtain ⟨r0, r1, r2, fr, hb2⟩ := resbox3 hb1; clear hb1)
  obtain ⟨s0, s1, s2⟩ := box3set' r0 r1 r2 (.int .i64 v.kind) (.int .i64 v.num) (.string ⟨v.text.toArray⟩)
  refine bodyPost_ret (v := v.agg) (by simp [results, Tryz.results37, go_sem, s0, s1, s2]) rfl ⟨⟨v, hv, rfl⟩, by (repeat (first | exact Below.refl _ _ | assumption | refine Below.drew ?_ | refine below_drewN ?_ _ | refine Below.alloc ?_ (by first | omega | simp <;> omega) _ | refine Below.setCell ?_ (by first | omega | simp <;> omega) _))⟩
/-- A slice of these nodes that the call has made. -/
def OwnNds (w w' : World) (es : List Nd) (e : Ending) : Prop :=
  ∃ (A : Option Addr) (c : Nat), e = .returned (.slice A es.length c) ∧ w'.ownsRow w.heap.size 53 6 (.slice A es.length c) es.length (ndCells es)
theorem own_fresh (w : World) {base e size n : Nat} {cur : Array Value} (hb : base ≤ w.heap.size) (hs : cur.size = n * size) (hm : n ≤ maxLen) :
    (w.alloc (.cells cur e)).ownsRow base e size (.slice (some ⟨w.heap.size, 0, none⟩) n n) n cur.toList :=
  ⟨by simpa using hs, .inr ⟨w.heap.size, n, cur, rfl, hb, heap_alloc_new w _, Nat.le_refl _, hm, hs, by rw [List.take_of_length_le (by simp [hs])]⟩⟩
theorem base_constant_any (v : Vl) (w : World) : Calls Tryz.prog 80 #[v.agg] w fun e w' => OwnNds w w' [⟨0, v, [], 0⟩] e ∧ Below w.heap.size w w' := by
  have HO := hide (own_fresh (w.alloc (.cells #[.int .i64 v.kind, .int .i64 v.num, str v.text] 51)) (base := w.heap.size) (e := 53) (size := 6) (n := 1) (cur := #[.int .i64 0, .int .i64 v.kind, .int .i64 v.num, str v.text, str [], .int .i64 0]) (by simp) (by simp) (by decide))
  go_enter Tryz.func80, Tryz.ntmps80
  go_wp2
  go_ret
  refine ⟨⟨_, 1, by first | rfl | (simp; done), HO.out⟩, by (repeat (first | exact Below.refl _ _ | assumption | refine Below.drew ?_ | refine below_drewN ?_ _ | refine Below.alloc ?_ (by first | omega | simp <;> omega) _ | refine Below.setCell ?_ (by first | omega | simp <;> omega) _))⟩
structure Col where
  name : Bytes
  kind : Int
  null : Bool
def ColAt (w : World) (g off : Nat) (c : Col) : Prop := w.cell? ⟨g, off, none⟩ = some (str c.name) ∧ w.cell? ⟨g, off + 1, none⟩ = some (.int .i64 c.kind) ∧ w.cell? ⟨g, off + 2, none⟩ = some (.bool c.null)
/-- A slice that reads as a list of columns. -/
def ColsAt (w : World) (A : Option Addr) (cs : List Col) : Prop :=
  cs = [] ∨ ∃ g off, A = some ⟨g, off, none⟩ ∧ g < w.heap.size ∧ ∀ i (h : i < cs.length), ColAt w g (off + i * 3) cs[i]
theorem ColsAt.below {w w' : World} {A : Option Addr} {cs : List Col} (h : ColsAt w A cs) (hb : Below w.heap.size w w') : ColsAt w' A cs := by
  rcases h with h | ⟨g, off, hA, hg, hc⟩
  · exact .inl h
  · refine .inr ⟨g, off, hA, Nat.lt_of_lt_of_le hg hb.size, fun i hi => ?_⟩
    obtain ⟨h1, h2, h3⟩ := hc i hi
    exact ⟨(hb.cell (p := ⟨g, _, none⟩) hg).trans h1, (hb.cell (p := ⟨g, _, none⟩) hg).trans h2, (hb.cell (p := ⟨g, _, none⟩) hg).trans h3⟩
def colNm (cs : List Col) : List Bytes := cs.map Col.name
def ColsOk (cs : List Col) : Prop := ∀ c ∈ cs, isNameB 24 c.name = true ∧ resB c.name = false
def LeafIs (cs : List Col) (w w' : World) (e : Ending) : Prop := ∃ n : Nd, n.ok = true ∧ n.ar = 0 ∧ (n.op = 1 → n.name ∈ colNm cs) ∧ OwnNds w w' [n] e
theorem own_low {w : World} {base b2 e size n : Nat} {v : Value} {xs : List Value} (h : w.ownsRow base e size v n xs) (hb : b2 ≤ base) : w.ownsRow b2 e size v n xs :=
  ⟨h.1, h.2.elim .inl fun ⟨g, cap, cur, a, b, r⟩ => .inr ⟨g, cap, cur, a, Nat.le_trans hb b, r⟩⟩
theorem const_ok {v : Vl} (h : validV v.kind v.num v.text = true) : (⟨0, v, [], 0⟩ : Nd).ok = true := by
  show shapedN 0 v.kind v.num v.text [] 0 = true
  rw [shapedN_0, h]; rfl
theorem col_ok {cs : List Col} (h : ColsOk cs) {c : Col} (hc : c ∈ cs) : (⟨1, vl0, c.name, 0⟩ : Nd).ok = true := by
  obtain ⟨h1, h2⟩ := h c hc
  show shapedN 1 0 0 [] c.name 0 = true
  rw [shapedN_1, h1, h2]; rfl
set_option maxRecDepth 100000 in
set_option maxHeartbeats 2000000 in
theorem base_leaf_any (k n : Int) (A : Option Addr) (cs : List Col) (cc : Nat) (w : World) (h : ColsAt w A cs) (hk : ColsOk cs) (hl : cs.length ≤ 1000) (h0 : 0 ≤ n) (h1 : n ≤ 1000000000000) :
    Calls Tryz.prog 44 #[.int .i64 k, .slice A cs.length cc, .int .i64 n] w fun e w' => LeafIs cs w w' e ∧ Below w.heap.size w w' := by
  have HA := hide h; have HK := hide hk
  clear h hk
  go_enter Tryz.func44, Tryz.ntmps44
  go_wp2
  go_loopw [7] (fun i wr => ∃ j : Nat, j ≤ cs.length ∧ i = .int .i64 j ∧ Below w.heap.size w wr) (fun i _ => cs.length - (intOf i).toNat)
  case atStart => exact ⟨0, by omega, rfl, Below.refl _ _⟩
  case round =>
    obtain ⟨j, hj, rfl, hbel⟩ := hrel
    have hsz := hbel.size
    by_cases hlt : j < cs.length
    · by_cases hn : 0 < n % 4
      · rcases HA.out.below hbel with e | ⟨g, off, rfl, hg, hc⟩
        · exact absurd hlt (by rw [e]; simp)
        have y0 : 0 ≤ (n / 4 + (j : Int)) % (cs.length : Int) := Int.emod_nonneg _ (by omega)
        have y1 : (n / 4 + (j : Int)) % (cs.length : Int) < (cs.length : Int) := Int.emod_lt_of_pos _ (by omega)
        obtain ⟨m, hm⟩ : ∃ m : Nat, (n / 4 + (j : Int)) % (cs.length : Int) = m := ⟨((n / 4 + (j : Int)) % (cs.length : Int)).toNat, by omega⟩
        have hml : m < cs.length := by omega
        have hcol := hc m hml
        have hok := col_ok HK.out (List.getElem_mem hml)
        have hin : cs[m].name ∈ colNm cs := List.mem_map.2 ⟨cs[m], List.getElem_mem hml, rfl⟩
        clear hc y0 y1
        generalize cs[m] = x at *
        obtain ⟨c0, c1, c2⟩ := hcol
        have HOk := hide (And.intro hok hin)
        clear hok hin
        have hz : ((cs.length : Int) == 0) = false := beq_eq_false_iff_ne.2 (by omega)
        have HO := hide (own_fresh (wr.alloc (.cells #[str x.name, .int .i64 x.kind, .bool x.null] 89)) (base := w.heap.size) (e := 53) (size := 6) (n := 1) (cur := #[.int .i64 1, .int .i64 0, .int .i64 0, str [], str x.name, .int .i64 0]) (by simp; omega) (by simp) (by decide))
        go_wp2
        · go_ret
          exact ⟨⟨⟨1, vl0, x.name, 0⟩, HOk.out.1, rfl, fun _ => HOk.out.2, _, 1, by first | rfl | (simp; done), HO.out⟩, by (repeat (first | exact Below.refl _ _ | assumption | refine Below.drew ?_ | refine below_drewN ?_ _ | refine Below.alloc ?_ (by first | omega | simp <;> omega) _ | refine Below.setCell ?_ (by first | omega | simp <;> omega) _))⟩
        · exact ⟨⟨j + 1, by omega, by go_num, by (repeat (first | exact Below.refl _ _ | assumption | refine Below.drew ?_ | refine below_drewN ?_ _ | refine Below.alloc ?_ (by first | omega | simp <;> omega) _ | refine Below.setCell ?_ (by first | omega | simp <;> omega) _))⟩, by simp [intOf]; omega⟩
      · by_cases h16 : n % 16 = 0
        · go_wp2_with fail
          refine (base_constant_any vl0 _).mono ?_
          rintro e w1 ⟨⟨A1, c1, rfl, hown⟩, hb1⟩
          go_wp2
          go_ret
          exact ⟨⟨_, const_ok (v := vl0) rfl, rfl, (fun e => by cases e), A1, c1, rfl, own_low hown hsz⟩, bel2 hb1 hbel⟩
        · have h16b : (n % 16 == 0) = false := beq_eq_false_iff_ne.2 h16
          go_wp2_with fail
          refine (base_Value_any _ _ _).mono ?_
          rintro e w1 ⟨⟨v, hv, rfl⟩, hb1⟩
          have hs1 := hb1.size
          go_wp2_with fail
          refine (base_constant_any v _).mono ?_
          rintro e w2 ⟨⟨A1, c1, rfl, hown⟩, hb2⟩
          go_wp2
          go_ret
          exact ⟨⟨_, const_ok hv, rfl, (fun e => by cases e), A1, c1, rfl, own_low hown (by omega)⟩, bel2 hb2 (bel2 hb1 hbel)⟩
    · by_cases h16 : n % 16 = 0
      · go_wp2_with fail
        refine (base_constant_any vl0 _).mono ?_
        rintro e w1 ⟨⟨A1, c1, rfl, hown⟩, hb1⟩
        go_wp2
        go_ret
        exact ⟨⟨_, const_ok (v := vl0) rfl, rfl, (fun e => by cases e), A1, c1, rfl, own_low hown hsz⟩, bel2 hb1 hbel⟩
      · have h16b : (n % 16 == 0) = false := beq_eq_false_iff_ne.2 h16
        go_wp2_with fail
        refine (base_Value_any _ _ _).mono ?_
        rintro e w1 ⟨⟨v, hv, rfl⟩, hb1⟩
        have hs1 := hb1.size
        go_wp2_with fail
        refine (base_constant_any v _).mono ?_
        rintro e w2 ⟨⟨A1, c1, rfl, hown⟩, hb2⟩
        go_wp2
        go_ret
        exact ⟨⟨_, const_ok hv, rfl, (fun e => by cases e), A1, c1, rfl, own_low hown (by omega)⟩, bel2 hb2 (bel2 hb1 hbel)⟩
end Go.Proofs.YtlfedcbihbigoaaGreatDoor

namespace Go.Proofs.YtlfedcbihbigoaaGreatDoor
open Go.RowKit
theorem Tryz.info_nd : (Tryz.prog.info? 53).map (fun i => (i.zero, i.size, i.bytes)) = some (some (.agg #[.int .i64 0, .int .i64 0, .int .i64 0, .string ⟨#[]⟩, .string ⟨#[]⟩, .int .i64 0]), 6, 64) := by kernel_rfl
theorem nd_one : ∀ (es : List Nd), ∀ u ∈ ndCells es, u.oneCell' = true
  | [], u, h => by cases h
  | n :: es, u, h => by
    rw [show ndCells (n :: es) = n.cells ++ ndCells es from rfl] at h
    rcases List.mem_append.1 h with h | h
    · simp [Nd.cells] at h
      rcases h with rfl | rfl | rfl | rfl | rfl | rfl <;> rfl
    · exact nd_one es u h
theorem cells_6 {W : World} {B : Nat} {a b c d e f : Value} {t : TypeId} (h : W.heap[B]? = some (.cells #[a, b, c, d, e, f] t)) : ∀ (j : Nat) (u : Value), [a, b, c, d, e, f][j]? = some u → W.cell? ((⟨B, 0, none⟩ : Addr).add j) = some u := by
  intro j u hu
  have e : (⟨B, 0, none⟩ : Addr).add j = ⟨B, j, none⟩ := by unfold Addr.add; split <;> simp_all
  rw [e, cell_of_heap h]
  simpa using hu
/-- Operands: slices of nodes. -/
structure Opd where
  A : Option Addr
  es : List Nd
  c : Nat
def OpsAt (w : World) (g off : Nat) (os : List Opd) : Prop := g < w.heap.size ∧ ∀ i (h : i < os.length), w.cell? ⟨g, off + i, none⟩ = some (.slice os[i].A os[i].es.length os[i].c) ∧ NdsAt w os[i].A os[i].es ∧ os[i].es ≠ [] ∧ os[i].es.length ≤ 10000
theorem OpsAt.below {w w' : World} {g off : Nat} {os : List Opd} (h : OpsAt w g off os) (hb : Below w.heap.size w w') : OpsAt w' g off os :=
  ⟨Nat.lt_of_lt_of_le h.1 hb.size, fun i hi => by
    obtain ⟨h1, h2, h3, h4⟩ := h.2 i hi
    exact ⟨(hb.cell (p := ⟨g, _, none⟩) h.1).trans h1, h2.below hb, h3, h4⟩⟩
def flatO (os : List Opd) : List Nd := os.flatMap Opd.es
theorem flatO_succ {os : List Opd} {k : Nat} (h : k < os.length) : flatO (os.take (k + 1)) = flatO (os.take k) ++ os[k].es := by
  unfold flatO; rw [List.take_succ_eq_append_getElem h, List.flatMap_append]; simp
theorem ndCells_append (a b : List Nd) : ndCells (a ++ b) = ndCells a ++ ndCells b := by simp [ndCells]
theorem flatO_len {w : World} {g off : Nat} {os : List Opd} (h : OpsAt w g off os) : ∀ k, k ≤ os.length → (flatO (os.take k)).length ≤ k * 10000
  | 0, _ => by simp [flatO]
  | k + 1, hk => by
    have ih := flatO_len h k (by omega)
    have := (h.2 k (by omega)).2.2.2
    rw [flatO_succ (by omega), List.length_append]; omega
set_option maxRecDepth 100000 in
set_option maxHeartbeats 2000000 in
theorem base_apply_any (op : Int) (g off cc : Nat) (os : List Opd) (w : World) (h : OpsAt w g off os) (hl : os.length ≤ 10) :
    Calls Tryz.prog 45 #[.int .i64 op, .slice (some ⟨g, off, none⟩) os.length cc] w fun e w' => OwnNds w w' (flatO os ++ [⟨op, vl0, [], 0⟩]) e ∧ Below w.heap.size w w' := by
  have HA := hide h
  clear h
  obtain ⟨i0, hi, hz0, hz1, hz2⟩ := info_parts Tryz.info_nd
  go_enter Tryz.func45, Tryz.ntmps45
  go_wp2
  go_loopw [5, 6] (fun s i wr => ∃ (k : Nat) (A : Option Addr) (c : Nat), s = .slice A (flatO (os.take k)).length c ∧ i = .int .i64 k ∧ k ≤ os.length ∧
      wr.ownsRow w.heap.size 53 6 (.slice A (flatO (os.take k)).length c) (flatO (os.take k)).length (ndCells (flatO (os.take k))) ∧ Below w.heap.size w wr) (fun _ i _ => os.length - (intOf i).toNat)
  case atStart => exact ⟨0, none, 0, rfl, rfl, by omega, own_nil _ _ _ _, Below.refl _ _⟩
  case round =>
    obtain ⟨k, A, c, rfl, rfl, hk, hown, hbel⟩ := hrel
    have hsz := hbel.size
    have hfl := flatO_len HA.out k hk
    by_cases hlt : k < os.length
    · obtain ⟨hg, hcs⟩ := HA.out.below hbel
      obtain ⟨c0, hN, hne, hln⟩ := hcs k hlt
      have HT := hide (flatO_succ hlt)
      clear hcs
      generalize os[k] = o at *
      rcases hN with e | ⟨gn, on, ho, hgn, hcn⟩
      · exact absurd e hne
      have HC := hide (show ∀ j u, (ndCells o.es)[j]? = some u → wr.cell? ((⟨gn, on, none⟩ : Addr).add j) = some u from fun j u hu => by
        have e : (⟨gn, on, none⟩ : Addr).add j = ⟨gn, on + j, none⟩ := by cases j <;> simp [Addr.add]
        rw [e]; exact hcn j u hu)
      rw [ho] at c0
      clear hcn hne ho
      have HO := hide hown
      clear hown
      generalize hF : flatO (os.take k) = fl at *
      clear hF
      go_wp2_with (at_builtin; refine wpList_append_own _ rfl _ _ 30 rfl w.heap.size 53 i0 _ 6 64 Tryz.underlying30 hi hz0 hz1 hz2 rfl (by decide) _ _ _ rfl HO.out ⟨gn, on, none⟩ o.es.length o.c (ndCells o.es) rfl (ndCells_len _) HC.out (nd_one _) (by unfold maxLen; omega) (by omega) (by omega) ?_; intro v' w3 hown3 hgrow _)
      obtain ⟨A3, c3, rfl⟩ := own_form hown3
      have hb3 : Below w.heap.size w w3 := hbel.grown hgrow (by omega) (fun k hk => (HO.out.lt k hk).1)
      rw [← ndCells_append, ← List.length_append] at hown3
      rw [← List.length_append]
      exact ⟨⟨k + 1, A3, c3, by rw [HT.out], by go_num, by omega, by rw [HT.out]; exact hown3, hb3⟩, by simp [intOf]; omega⟩
    · obtain rfl : k = os.length := by omega
      rw [List.take_length] at hown hfl ⊢
      have HO := hide hown
      clear hown
      generalize hF : flatO os = fl at *
      go_wp2_with (at_builtin; refine wpList_append_own _ rfl _ _ 30 rfl w.heap.size 53 i0 _ 6 64 Tryz.underlying30 hi hz0 hz1 hz2 rfl (by decide) _ _ _ rfl (HO.out.alloc _) ⟨wr.heap.size, 0, none⟩ 1 1 [.int .i64 op, .int .i64 0, .int .i64 0, str [], str [], .int .i64 0] rfl rfl (by exact cells_6 (heap_alloc_new _ _)) (by simp [Value.oneCell']) (by unfold maxLen; omega) (by omega) (by simp; omega) ?_; intro v' w3 hown3 hgrow _)
      obtain ⟨A3, c3, rfl⟩ := own_form hown3
      have hb3 : Below w.heap.size w w3 := (hbel.alloc (by omega) _).grown hgrow (by simp; omega) (fun k hk => (HO.out.lt k hk).1)
      go_ret
      subst hF
      exact ⟨⟨A3, c3, by simp, by rw [ndCells_append, List.length_append]; exact hown3⟩, hb3⟩
end Go.Proofs.YtlfedcbihbigoaaGreatDoor

namespace Go.Proofs.YtlfedcbihbigoaaGreatDoor
open Go.RowKit
theorem valid_run {es : List Nd} (h : validE es = 0) (k : Nat) : ∃ st, RunRel es k st := by
  unfold RunRel
  cases hr : runE (es.take k) [] with
  | ok st => exact ⟨st, rfl⟩
  | error x =>
    have h1 := runE_fails hr
    have h2 := runE_err _ _ _ hr
    unfold validE at h
    split at h
    · omega
    · rw [h1] at h
      have h3 : x = 0 := h
      omega
theorem valid_step {es : List Nd} {k : Nat} {st : List Int} (h : validE es = 0) (hk : k < es.length) (hr : RunRel es k st) :
    ∃ a : Nat, es[k].ar = a ∧ a ≤ 8 ∧ a ≤ st.length ∧ ∃ st', RunRel es (k + 1) st' ∧ st'.length = st.length - a + 1 := by
  obtain ⟨st', h'⟩ := valid_run h (k + 1)
  have h2 := h'
  unfold RunRel at h2
  rw [runE_take hr hk] at h2
  obtain ⟨h3, h4, h5, h6⟩ := stepE_ok h2
  obtain ⟨a0, a8⟩ := shaped_ar h3
  refine ⟨es[k].ar.toNat, by omega, by omega, by omega, st', h', ?_⟩
  rw [h6, List.length_append, List.length_take, List.length_singleton]; omega
theorem valid_last {es : List Nd} {st : List Int} (h : validE es = 0) (hr : RunRel es es.length st) : st.length = 1 := by
  unfold validE at h
  split at h
  · omega
  · rename_i h256
    unfold RunRel at hr
    rw [List.take_length] at hr
    rw [hr] at h
    have h3 : (if st.length = 1 then (0 : Int) else 8) = 0 := h
    split at h3
    · assumption
    · omega
theorem valid_le {es : List Nd} (h : validE es = 0) : es.length ≤ 256 := by
  unfold validE at h
  split at h <;> omega
theorem heap_new_at {W : World} {o : Obj} {B : Nat} (h : W.heap.size = B) : (W.alloc o).heap[B]? = some o := by subst h; exact heap_alloc_new W o
theorem own_cells {w : World} {base e size n c : Nat} {A : Option Addr} {xs : List Value} (h : w.ownsRow base e size (.slice A n c) n xs) : ∀ b, A = some b → ∀ j u, xs[j]? = some u → w.cell? (b.add j) = some u := by
  intro b hb j u hu
  subst hb
  rcases h.2 with ⟨hv, hn⟩ | ⟨g, cap, cur, hv, hg, hh, hnc, hcap, hsz, htk⟩
  · injection hv with h1 h2 h3
    cases h1
  · injection hv with h1 h2 h3
    injection h1 with h1
    subst h1 h3
    have hj : j < n * size := by
      rcases Nat.lt_or_ge j xs.length with h5 | h5
      · rw [h.1] at h5; exact h5
      · rw [List.getElem?_eq_none h5] at hu; cases hu
    have e : (⟨g, 0, none⟩ : Addr).add j = ⟨g, j, none⟩ := by unfold Addr.add; split <;> simp_all
    rw [e, World.ownsRow.cellAt h j hj, hu]
theorem own_cap {w : World} {base e size n c : Nat} {A : Option Addr} {xs : List Value} (h : w.ownsRow base e size (.slice A n c) n xs) : n ≤ c ∧ c ≤ maxLen ∧ (A = none → n = 0 ∧ c = 0) := by
  rcases h.2 with ⟨hv, hn⟩ | ⟨g, cap, cur, hv, hg, hh, hnc, hcap, hsz, htk⟩
  · injection hv with h1 h2 h3
    subst h3
    exact ⟨by omega, Nat.zero_le _, fun _ => ⟨hn, rfl⟩⟩
  · injection hv with h1 h2 h3
    subst h1 h3
    exact ⟨hnc, hcap, fun e => by cases e⟩
theorem take_some {α : Type} {xs : List α} {m j : Nat} {u : α} (h : (xs.take m)[j]? = some u) : xs[j]? = some u := by
  rw [List.getElem?_take] at h
  split at h
  · exact h
  · cases h
theorem nm_len {m : Nat} {l : Bytes} (h : isNameB m l = true) : l.length ≤ m := by
  unfold isNameB at h
  simp at h
  exact h.1
theorem qual_len {l : Bytes} (h : isQualB 24 l = true) : l.length ≤ 49 := by
  unfold isQualB at h
  split at h
  · simp at h
    have h1 := nm_len h.1
    have h2 := nm_len h.2
    rw [List.length_take] at h1
    rw [List.length_drop] at h2
    omega
  · have := nm_len h; omega
theorem ok_name {n : Nd} (h : n.ok = true) : n.name.length ≤ 49 := by
  obtain ⟨op, ⟨k, m, x⟩, nm, a⟩ := n
  have h : shapedN op k m x nm a = true := h
  show nm.length ≤ 49
  unfold shapedN at h
  repeat' split at h
  all_goals simp only [Bool.and_eq_true] at h
  · have := h.1.2; simp at this; simp [this]
  · have := nm_len h.2.1.2
    omega
  · exact qual_len h.2.1.2
  · exact qual_len h.2.1.1.1.1
  · have := h.2.1.2; simp at this; simp [this]
theorem bodyPost_ex {P : Program} {fn : Func} {R : Ending → World → Prop} {a : Act} {w : World} (hd : a.defers = []) (h : ∃ v, (results fn a.tmps).run P w = .ok v w ∧ R (.returned v) w) : bodyPost P fn R .ret a w :=
  let ⟨_, h1, h2⟩ := h; bodyPost_ret h1 hd h2
theorem two_under (w : World) (o1 o2 : Obj) : ((w.alloc o1).alloc o2).heap[w.heap.size]? = some o1 ∧ ((w.alloc o1).alloc o2).heap[w.heap.size + 1]? = some o2 :=
  ⟨((Below.alloc (Below.refl _ (w.alloc o1)) (Nat.le_refl _) o2).block _ (by simp)).trans (heap_alloc_new w o1), heap_new_at (by simp)⟩
theorem three_under (w : World) (o1 o2 o3 : Obj) : (((w.alloc o1).alloc o2).alloc o3).heap[w.heap.size]? = some o1 ∧ (((w.alloc o1).alloc o2).alloc o3).heap[w.heap.size + 1]? = some o2 ∧ (((w.alloc o1).alloc o2).alloc o3).heap[w.heap.size + 2]? = some o3 :=
  ⟨((Below.alloc (Below.refl _ ((w.alloc o1).alloc o2)) (Nat.le_refl _) o3).block _ (by simp; omega)).trans (two_under w o1 o2).1, ((Below.alloc (Below.refl _ ((w.alloc o1).alloc o2)) (Nat.le_refl _) o3).block _ (by simp)).trans (two_under w o1 o2).2, heap_new_at (by simp)⟩
end Go.Proofs.YtlfedcbihbigoaaGreatDoor
