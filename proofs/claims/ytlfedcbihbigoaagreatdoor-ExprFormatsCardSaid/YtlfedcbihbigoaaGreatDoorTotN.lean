/- Contracts of the laws' own functions: columns, light (law8). Contract: base.Nodes: some list of nodes. -/
import Derived.Test.YtlfedcbihbigoaaGreatDoorTypB
import Derived.RegionTactic
import Derived.ChangeAlike
import Derived.BigRegion
set_option linter.unusedVariables false
set_option linter.unusedSimpArgs false
namespace Go.Proofs.YtlfedcbihbigoaaGreatDoor
open Go.RowKit
def lawCols : List Col := [⟨[97], 2, false⟩, ⟨[98], 1, true⟩, ⟨[115], 3, false⟩, ⟨[116], 4, false⟩]
theorem lawCols_ok : ColsOk lawCols := by
  intro c hc
  simp only [lawCols, List.mem_cons, List.not_mem_nil, or_false] at hc
  rcases hc with rfl | rfl | rfl | rfl <;> exact ⟨by decide, by decide⟩
theorem law8_columns_any (w : World) : Calls Tryz.prog 27 #[] w fun e w' => (∃ (C : Option Addr) (c : Nat), e = .returned (.slice C 4 c) ∧ ColsAt w' C lawCols) ∧ Below w.heap.size w w' := by
  go_enter Tryz.func27, Tryz.ntmps27
  go_wp2
  go_ret
  refine ⟨⟨_, 4, rfl, .inr ⟨w.heap.size, 0, rfl, by simp, fun i hi => ?_⟩⟩, by (repeat (first | exact Below.refl _ _ | assumption | refine Below.drew ?_ | refine below_drewN ?_ _ | refine Below.alloc ?_ (by first | omega | simp <;> omega) _ | refine Below.setCell ?_ (by first | omega | simp <;> omega) _))⟩
  match i, hi with
  | 0, _ => exact ⟨by simp [go_sem, lawCols], by simp [go_sem, lawCols], by simp [go_sem, lawCols]⟩
  | 1, _ => exact ⟨by simp [go_sem, lawCols], by simp [go_sem, lawCols], by simp [go_sem, lawCols]⟩
  | 2, _ => exact ⟨by simp [go_sem, lawCols], by simp [go_sem, lawCols], by simp [go_sem, lawCols]⟩
  | 3, _ => exact ⟨by simp [go_sem, lawCols], by simp [go_sem, lawCols], by simp [go_sem, lawCols]⟩
theorem law8_light_any (A : Option Addr) (n c : Nat) (w : World) : Calls Tryz.prog 17 #[.slice A n c] w fun e w' => e = .returned (.bool (decide (n ≤ 400))) ∧ w = w' := by
  go_enter Tryz.func17, Tryz.ntmps17
  go_wp2
  go_ret
  exact ⟨ret_bool (by first | rfl | (simp; done) | (simp; omega)), rfl⟩
theorem NamesOk.push {es : List Nd} {n : Nd} (h : NamesOk es) (hn : n.name.length ≤ 9) : NamesOk (es ++ [n]) := fun m hm => by
  rcases List.mem_append.1 hm with hm | hm
  · exact h m hm
  · simp only [List.mem_cons, List.not_mem_nil, or_false] at hm
    subst hm; unfold maxLen; omega
theorem nod_raw : ∀ m : Nat, m < 4 → ∃ x : Bytes, [Value.string ⟨#[97]⟩, Value.string ⟨#[98, 121]⟩, Value.string ⟨#[65]⟩, Value.string ⟨#[109, 46, 102]⟩][m]? = some (str x) ∧ x.length ≤ 9
  | 0, _ => ⟨[97], rfl, by decide⟩
  | 1, _ => ⟨[98, 121], rfl, by decide⟩
  | 2, _ => ⟨[65], rfl, by decide⟩
  | 3, _ => ⟨[109, 46, 102], rfl, by decide⟩
  | m + 4, h => absurd h (by omega)
theorem nod_col : ∀ m : Nat, m < 4 → ∃ x : Bytes, [Value.string ⟨#[97]⟩, Value.string ⟨#[98]⟩, Value.string ⟨#[118]⟩, Value.string ⟨#[100, 97, 121]⟩][m]? = some (str x) ∧ x.length ≤ 9
  | 0, _ => ⟨[97], rfl, by decide⟩
  | 1, _ => ⟨[98], rfl, by decide⟩
  | 2, _ => ⟨[118], rfl, by decide⟩
  | 3, _ => ⟨[100, 97, 121], rfl, by decide⟩
  | m + 4, h => absurd h (by omega)
theorem nod_day : ∀ m : Nat, m < 2 → ∃ x : Bytes, [Value.string ⟨#[122]⟩, Value.string ⟨#[109, 46, 122]⟩][m]? = some (str x) ∧ x.length ≤ 9
  | 0, _ => ⟨[122], rfl, by decide⟩
  | 1, _ => ⟨[109, 46, 122], rfl, by decide⟩
  | m + 2, h => absurd h (by omega)
theorem nod_call : ∀ m : Nat, m < 3 → ∃ x : Bytes, [Value.string ⟨#[102]⟩, Value.string ⟨#[109, 46, 103]⟩, Value.string ⟨#[105, 102]⟩][m]? = some (str x) ∧ x.length ≤ 9
  | 0, _ => ⟨[102], rfl, by decide⟩
  | 1, _ => ⟨[109, 46, 103], rfl, by decide⟩
  | 2, _ => ⟨[105, 102], rfl, by decide⟩
  | m + 3, h => absurd h (by omega)
theorem gen_world {K : World → Prop} {W : World} (R : World → Prop) (h : R W) (hK : ∀ W, R W → K W) : K W := hK W h
theorem cells6_of {W : World} {B : Nat} {a b c d e f : Value} {t : TypeId} (h : W.heap[B]? = some (.cells #[a, b, c, d, e, f] t)) :
    W.cell? ⟨B, 0, none⟩ = some a ∧ W.cell? ⟨B, 1, none⟩ = some b ∧ W.cell? ⟨B, 2, none⟩ = some c ∧ W.cell? ⟨B, 3, none⟩ = some d ∧ W.cell? ⟨B, 4, none⟩ = some e ∧ W.cell? ⟨B, 5, none⟩ = some f :=
  ⟨cell_of_heap h 0, cell_of_heap h 1, cell_of_heap h 2, cell_of_heap h 3, cell_of_heap h 4, cell_of_heap h 5⟩
theorem box5at {w : World} {B : Nat} {x y z u v : Value} (h1 : w.cell? ⟨B, 1, none⟩ = some x) (h2 : w.cell? ⟨B, 2, none⟩ = some y) (h3 : w.cell? ⟨B, 3, none⟩ = some z) (h4 : w.cell? ⟨B, 4, none⟩ = some u) (h5 : w.cell? ⟨B, 5, none⟩ = some v) :
    (∀ a, (w.setCell ⟨B, 4, none⟩ a).cell? ⟨B, 4, none⟩ = some a) ∧ (∀ a b, ((w.setCell ⟨B, 4, none⟩ a).setCell ⟨B, 5, none⟩ b).cell? ⟨B, 5, none⟩ = some b) ∧
    (∀ a b c, (((w.setCell ⟨B, 4, none⟩ a).setCell ⟨B, 5, none⟩ b).setCell ⟨B, 1, none⟩ c).cell? ⟨B, 1, none⟩ = some c) ∧
    (∀ a b c d, ((((w.setCell ⟨B, 4, none⟩ a).setCell ⟨B, 5, none⟩ b).setCell ⟨B, 1, none⟩ c).setCell ⟨B, 2, none⟩ d).cell? ⟨B, 2, none⟩ = some d) ∧
    (∀ a b c d e, (((((w.setCell ⟨B, 4, none⟩ a).setCell ⟨B, 5, none⟩ b).setCell ⟨B, 1, none⟩ c).setCell ⟨B, 2, none⟩ d).setCell ⟨B, 3, none⟩ e).cell? ⟨B, 3, none⟩ = some e) := by
  refine ⟨fun a => World.cell?_setCell_same _ _ _ h4, fun a b => World.cell?_setCell_same (u := v) _ _ _ ?_, fun a b c => World.cell?_setCell_same (u := x) _ _ _ ?_, fun a b c d => World.cell?_setCell_same (u := y) _ _ _ ?_, fun a b c d e => World.cell?_setCell_same (u := z) _ _ _ ?_⟩
  · rw [World.cell?_setCell_other _ _ _ _ (by simp)]; exact h5
  · rw [World.cell?_setCell_other _ _ _ _ (by simp), World.cell?_setCell_other _ _ _ _ (by simp)]; exact h1
  · rw [World.cell?_setCell_other _ _ _ _ (by simp), World.cell?_setCell_other _ _ _ _ (by simp), World.cell?_setCell_other _ _ _ _ (by simp)]; exact h2
  · rw [World.cell?_setCell_other _ _ _ _ (by simp), World.cell?_setCell_other _ _ _ _ (by simp), World.cell?_setCell_other _ _ _ _ (by simp), World.cell?_setCell_other _ _ _ _ (by simp)]; exact h3
theorem box3at {w : World} {B : Nat} {x y z : Value} (h1 : w.cell? ⟨B, 1, none⟩ = some x) (h2 : w.cell? ⟨B, 2, none⟩ = some y) (h3 : w.cell? ⟨B, 3, none⟩ = some z) (a b c : Value) :
    (w.setCell ⟨B, 1, none⟩ a).cell? ⟨B, 1, none⟩ = some a ∧ ((w.setCell ⟨B, 1, none⟩ a).setCell ⟨B, 2, none⟩ b).cell? ⟨B, 2, none⟩ = some b ∧ (((w.setCell ⟨B, 1, none⟩ a).setCell ⟨B, 2, none⟩ b).setCell ⟨B, 3, none⟩ c).cell? ⟨B, 3, none⟩ = some c := by
  refine ⟨World.cell?_setCell_same _ _ _ h1, World.cell?_setCell_same (u := y) _ _ _ ?_, World.cell?_setCell_same (u := z) _ _ _ ?_⟩
  · rw [World.cell?_setCell_other _ _ _ _ (by simp)]; exact h2
  · rw [World.cell?_setCell_other _ _ _ _ (by simp), World.cell?_setCell_other _ _ _ _ (by simp)]; exact h3
set_option maxRecDepth 100000 in
set_option maxHeartbeats 8000000 in
theorem base_Nodes_any (L : Option Addr) (l : List Int) (lc m : Nat) (w : World) (hL : IntsAt w L l) (hm : m ≤ 10) :
    Calls Tryz.prog 19 #[.slice L l.length lc, .int .i64 (m : Int)] w fun e w' => (∃ es : List Nd, es.length = m ∧ NamesOk es ∧ OwnNds w w' es e) ∧ Below w.heap.size w w' := by
  have HL := hide hL
  clear hL
  obtain ⟨i0, hi, hz0, hz1, hz2⟩ := info_parts Tryz.info_nd
  have q1 := mask_1
  have q3 := mask_3
  have q15 := mask_15
  go_enter Tryz.func19, Tryz.ntmps19
  go_wp2
  go_loopw [5, 6] (fun s i wr => ∃ (es : List Nd) (A : Option Addr) (c : Nat), s = .slice A es.length c ∧ i = .int .i64 es.length ∧ es.length ≤ m ∧ Hid (NamesOk es) ∧
      wr.ownsRow w.heap.size 53 6 (.slice A es.length c) es.length (ndCells es) ∧ Below w.heap.size w wr) (fun _ i _ => m - (intOf i).toNat)
  case atStart => exact ⟨[], none, 0, rfl, rfl, by simp, hide (fun n hn => (List.not_mem_nil hn).elim), own_nil _ _ _ _, Below.refl _ _⟩
  case round =>
    obtain ⟨es, A, c, rfl, rfl, hk, HX, hown, hbel⟩ := hrel
    have hsz := hbel.size
    by_cases hlt : es.length < m
    · have hn0 := lAt_nn l es.length
      have hn1 := lAt_top l es.length
      have HAt := hide (base_At_any L l es.length wr lc (HL.out.below hbel))
      have HO := hide hown
      clear hown
      generalize lAt l es.length = v at *
      have k0 : 0 ≤ v / 24 := by omega
      have k1 : v / 24 ≤ 131072 := by omega
      by_cases e1 : v / 256 % 16 = 0
      · obtain ⟨x, hx, hxl⟩ := nod_raw (v % 4).toNat (by omega)
        obtain ⟨hxk, hx2⟩ := List.getElem?_eq_some_iff.1 hx
        have ht : v.tmod 4 = v % 4 := Int.tmod_eq_emod_of_nonneg hn0
        have hm0 : 0 ≤ v % 4 := by omega
        have hm1 : v % 4 < 4 := by omega
        have f1 : (v / 256 % 16 == 0) = true := by rw [e1]; rfl
        go_wp2_with (go_at_call 23; refine HAt.out.mono ?_; rintro e w0 ⟨rfl, hq⟩; have hb0 : Below w.heap.size w w0 := (by obtain ⟨q, rfl⟩ := hq; exact below_drewN hbel q); have hb1 : Below wr.heap.size wr w0 := (by obtain ⟨q, rfl⟩ := hq; exact below_drewN (Below.refl _ _) q); have hsz0 := hb1.size; clear hq HAt)
        have hl0 : w0.heap.size < w0.heap.size + 1 := Nat.lt_succ_self _
        have hwr : IntKind.i64.wrap (v / 8 % 4 - 1) = v / 8 % 4 - 1 := IntWalk.i64_in _ (by omega)
        first | (go_region_with (go_at_call 37; refine (base_Any_any _ _ hn0).mono ?_; rintro e w1 ⟨⟨vv, hvv, rfl⟩, hb2⟩; have q8 := hb2.block w0.heap.size (by first | (simp; done) | (simp; omega)); have hxb : w1.heap[w0.heap.size]? = some (ndBox (v % 24 - 1) 0 0 ⟨#[]⟩ ⟨#[]⟩ 0) := (by first | exact q8.trans (heap_alloc_new _ _) | exact q8.trans ((heap_alloc_old _ _ (by simp)).trans (heap_alloc_new _ _))); have hb3 : Below wr.heap.size wr w1 := Below.trans (by (repeat (first | exact Below.refl _ _ | assumption | refine Below.drew ?_ | refine below_drewN ?_ _ | refine Below.alloc ?_ (by first | omega | simp <;> omega) _ | refine Below.setCell ?_ (by first | omega | simp <;> omega) _))) (hb2.mono (by first | (simp; done) | (simp; omega))); have hlt1 := lt_of_heap hxb; have fr : ∀ i, w1.frozen? ⟨w0.heap.size, i, none⟩ = false := (fun i => free_of_heap hxb i); obtain ⟨r0, r1, r2, r3, r4, r5⟩ := cells6_of hxb; obtain ⟨s4, s5, s1, s2, s3⟩ := box5at r1 r2 r3 r4 r5; (first | (have q9 := hb2.block (w0.heap.size + 1) (by first | (simp; done) | (simp; omega)); have hyb : w1.heap[w0.heap.size + 1]? = some (.cells #[Value.string ⟨#[97]⟩, Value.string ⟨#[98, 121]⟩, Value.string ⟨#[65]⟩, Value.string ⟨#[109, 46, 102]⟩] 9) := q9.trans (heap_new_at (by simp)); have hyc : w1.cell? ⟨w0.heap.size + 1, (v % 4).toNat, none⟩ = some (str x) := (by rw [cell_of_heap hyb]; simpa using hx); clear q9 hyb) | skip); clear q8 hxb hb2)) | fail
        all_goals
          refine gen_world (fun W => Below wr.heap.size wr W ∧ W.cell? ⟨w0.heap.size, 0, none⟩ = some (.int .i64 (v % 24 - 1)) ∧ W.cell? ⟨w0.heap.size, 1, none⟩ = some (.int .i64 vv.kind) ∧ W.cell? ⟨w0.heap.size, 2, none⟩ = some (.int .i64 vv.num) ∧ W.cell? ⟨w0.heap.size, 3, none⟩ = some (str vv.text) ∧ W.cell? ⟨w0.heap.size, 4, none⟩ = some (str x) ∧ W.cell? ⟨w0.heap.size, 5, none⟩ = some (.int .i64 (v / 8 % 4 - 1))) ?_ ?_
          · refine ⟨?_, ?_, ?_, ?_, ?_, ?_, ?_⟩
            · (repeat (with_reducible (first | exact hb3 | refine Below.drew ?_ | refine Below.alloc ?_ (by first | omega | (simp; omega)) _ | refine Below.setCell ?_ (by first | omega | (simp; omega)) _)))
            all_goals go_simp
          rintro W ⟨hb5, n0, n1, n2, n3, n4, n5⟩
          clear s1 s2 s3 s4 s5 r0 r1 r2 r3 r4 r5 fr
          have hb4 := bel2 hb5 hbel
          have hsW := hb5.size
          go_wp2_with (at_builtin; refine wpList_append_own _ rfl _ _ 30 rfl w.heap.size 53 i0 _ 6 64 Tryz.underlying30 hi hz0 hz1 hz2 rfl (by decide) _ _ _ rfl (own_below HO.out (by (repeat (first | exact Below.refl _ _ | assumption | refine Below.drew ?_ | refine below_drewN ?_ _ | refine Below.alloc ?_ (by first | omega | simp <;> omega) _ | refine Below.setCell ?_ (by first | omega | simp <;> omega) _)))) ⟨W.heap.size, 0, none⟩ 1 1 [.int .i64 (v % 24 - 1), .int .i64 vv.kind, .int .i64 vv.num, str vv.text, str x, .int .i64 (v / 8 % 4 - 1)] rfl rfl (by exact cells_6 (heap_new_at (by simp))) (by simp [Value.oneCell']) (by unfold maxLen; omega) (by omega) (by simp; omega) ?_; intro v' w3 hown3 hgrow _)
          obtain ⟨A3, c3, rfl⟩ := own_form hown3
          have hb3 : Below w.heap.size w w3 := (show Below w.heap.size w _ from by (repeat (first | exact Below.refl _ _ | assumption | refine Below.drew ?_ | refine below_drewN ?_ _ | refine Below.alloc ?_ (by first | omega | simp <;> omega) _ | refine Below.setCell ?_ (by first | omega | simp <;> omega) _))).grown hgrow (by simp; omega) (fun k hk => (HO.out.lt k hk).1)
          have HP := hide (own_push ⟨v % 24 - 1, vv, x, v / 8 % 4 - 1⟩ hown3)
          exact ⟨⟨es ++ [⟨v % 24 - 1, vv, x, v / 8 % 4 - 1⟩], A3, c3, by simp, by simp, by simp; omega, hide (HX.out.push (hxl)), HP.out, hb3⟩, by simp [intOf]; omega⟩
      have f1 : (v / 256 % 16 == 0) = false := beq_eq_false_iff_ne.2 e1
      by_cases e2 : v % 24 = 1
      · go_wp2_with (go_at_call 23; refine HAt.out.mono ?_; rintro e w0 ⟨rfl, hq⟩; have hb0 : Below w.heap.size w w0 := (by obtain ⟨q, rfl⟩ := hq; exact below_drewN hbel q); have hb1 : Below wr.heap.size wr w0 := (by obtain ⟨q, rfl⟩ := hq; exact below_drewN (Below.refl _ _) q); have hsz0 := hb1.size; clear hq HAt)
        have hbx := Below.refl (w0.heap.size + 1) (w0.alloc (ndBox 0 0 0 ⟨#[]⟩ ⟨#[]⟩ 0))
        refine (base_Any_any _ _ k0).mono ?_
        rintro e w1 ⟨⟨vv, hvv, rfl⟩, hb2⟩
        have hcur := below_go hbx (by simp) hb2
        obtain ⟨r0, r1, r2, r3, r4, r5, rl⟩ := box6 hcur
        have hh := heap_of_below hcur (Nat.lt_succ_self _)
        have fr : ∀ i, w1.frozen? ⟨w0.heap.size, i, none⟩ = false := fun i => free_of_heap hh i
        have hb3 : Below wr.heap.size wr w1 := hb1.trans ((box_below hcur).mono hsz0)
        have hb4 := bel2 hb3 hbel
        have hsz1 := hb3.size
        obtain ⟨s1, s2, s3⟩ := box3at r1 r2 r3 (.int .i64 vv.kind) (.int .i64 vv.num) (.string ⟨vv.text.toArray⟩)
        clear hbx hb2 hcur hh
        go_wp2_with (at_builtin; refine wpList_append_own _ rfl _ _ 30 rfl w.heap.size 53 i0 _ 6 64 Tryz.underlying30 hi hz0 hz1 hz2 rfl (by decide) _ _ _ rfl (own_below HO.out (by (repeat (first | exact Below.refl _ _ | assumption | refine Below.drew ?_ | refine below_drewN ?_ _ | refine Below.alloc ?_ (by first | omega | simp <;> omega) _ | refine Below.setCell ?_ (by first | omega | simp <;> omega) _)))) ⟨w1.heap.size, 0, none⟩ 1 1 [.int .i64 0, .int .i64 vv.kind, .int .i64 vv.num, str vv.text, str [], .int .i64 0] rfl rfl (by exact cells_6 (heap_new_at (by simp))) (by simp [Value.oneCell']) (by unfold maxLen; omega) (by omega) (by simp; omega) ?_; intro v' w3 hown3 hgrow _)
        obtain ⟨A3, c3, rfl⟩ := own_form hown3
        have hb3 : Below w.heap.size w w3 := (show Below w.heap.size w _ from by (repeat (first | exact Below.refl _ _ | assumption | refine Below.drew ?_ | refine below_drewN ?_ _ | refine Below.alloc ?_ (by first | omega | simp <;> omega) _ | refine Below.setCell ?_ (by first | omega | simp <;> omega) _))).grown hgrow (by simp; omega) (fun k hk => (HO.out.lt k hk).1)
        have HP := hide (own_push ⟨0, vv, [], 0⟩ hown3)
        exact ⟨⟨es ++ [⟨0, vv, [], 0⟩], A3, c3, by simp, by simp, by simp; omega, hide (HX.out.push (by simp)), HP.out, hb3⟩, by simp [intOf]; omega⟩
      have f2 : (v % 24 - 1 == 0) = false := beq_eq_false_iff_ne.2 (by omega)
      by_cases e3 : v % 24 = 2
      · obtain ⟨x, hx, hxl⟩ := nod_col (v / 24 % 4).toNat (by omega)
        go_wp2_with (first | (go_at_call 23; refine HAt.out.mono ?_; rintro e w0 ⟨rfl, hq⟩; have hb0 : Below w.heap.size w w0 := (by obtain ⟨q, rfl⟩ := hq; exact below_drewN hbel q); have hb1 : Below wr.heap.size wr w0 := (by obtain ⟨q, rfl⟩ := hq; exact below_drewN (Below.refl _ _) q); have hsz0 := hb1.size; clear hq HAt) | (at_builtin; refine wpList_append_own _ rfl _ _ 30 rfl w.heap.size 53 i0 _ 6 64 Tryz.underlying30 hi hz0 hz1 hz2 rfl (by decide) _ _ _ rfl (own_below HO.out (by (repeat (first | exact Below.refl _ _ | assumption | refine Below.drew ?_ | refine below_drewN ?_ _ | refine Below.alloc ?_ (by first | omega | simp <;> omega) _ | refine Below.setCell ?_ (by first | omega | simp <;> omega) _)))) ⟨w0.heap.size + 1 + 1, 0, none⟩ 1 1 [.int .i64 1, .int .i64 0, .int .i64 0, str [], str x, .int .i64 0] rfl rfl (by exact cells_6 (heap_new_at (by simp))) (by simp [Value.oneCell']) (by unfold maxLen; omega) (by omega) (by simp; omega) ?_; intro v' w3 hown3 hgrow _))
        obtain ⟨A3, c3, rfl⟩ := own_form hown3
        have hb3 : Below w.heap.size w w3 := (show Below w.heap.size w _ from by (repeat (first | exact Below.refl _ _ | assumption | refine Below.drew ?_ | refine below_drewN ?_ _ | refine Below.alloc ?_ (by first | omega | simp <;> omega) _ | refine Below.setCell ?_ (by first | omega | simp <;> omega) _))).grown hgrow (by simp; omega) (fun k hk => (HO.out.lt k hk).1)
        have HP := hide (own_push ⟨1, vl0, x, 0⟩ hown3)
        exact ⟨⟨es ++ [⟨1, vl0, x, 0⟩], A3, c3, by simp, by simp, by simp; omega, hide (HX.out.push (hxl)), HP.out, hb3⟩, by simp [intOf]; omega⟩
      have f3 : (v % 24 - 1 == 1) = false := beq_eq_false_iff_ne.2 (by omega)
      by_cases e4 : v % 24 = 21
      · obtain ⟨x, hx, hxl⟩ := nod_day (v / 24 % 2).toNat (by omega)
        go_wp2_with (first | (go_at_call 23; refine HAt.out.mono ?_; rintro e w0 ⟨rfl, hq⟩; have hb0 : Below w.heap.size w w0 := (by obtain ⟨q, rfl⟩ := hq; exact below_drewN hbel q); have hb1 : Below wr.heap.size wr w0 := (by obtain ⟨q, rfl⟩ := hq; exact below_drewN (Below.refl _ _) q); have hsz0 := hb1.size; clear hq HAt) | (at_builtin; refine wpList_append_own _ rfl _ _ 30 rfl w.heap.size 53 i0 _ 6 64 Tryz.underlying30 hi hz0 hz1 hz2 rfl (by decide) _ _ _ rfl (own_below HO.out (by (repeat (first | exact Below.refl _ _ | assumption | refine Below.drew ?_ | refine below_drewN ?_ _ | refine Below.alloc ?_ (by first | omega | simp <;> omega) _ | refine Below.setCell ?_ (by first | omega | simp <;> omega) _)))) ⟨w0.heap.size + 1 + 1, 0, none⟩ 1 1 [.int .i64 20, .int .i64 0, .int .i64 0, str [], str x, .int .i64 0] rfl rfl (by exact cells_6 (heap_new_at (by simp))) (by simp [Value.oneCell']) (by unfold maxLen; omega) (by omega) (by simp; omega) ?_; intro v' w3 hown3 hgrow _))
        obtain ⟨A3, c3, rfl⟩ := own_form hown3
        have hb3 : Below w.heap.size w w3 := (show Below w.heap.size w _ from by (repeat (first | exact Below.refl _ _ | assumption | refine Below.drew ?_ | refine below_drewN ?_ _ | refine Below.alloc ?_ (by first | omega | simp <;> omega) _ | refine Below.setCell ?_ (by first | omega | simp <;> omega) _))).grown hgrow (by simp; omega) (fun k hk => (HO.out.lt k hk).1)
        have HP := hide (own_push ⟨20, vl0, x, 0⟩ hown3)
        exact ⟨⟨es ++ [⟨20, vl0, x, 0⟩], A3, c3, by simp, by simp, by simp; omega, hide (HX.out.push (hxl)), HP.out, hb3⟩, by simp [intOf]; omega⟩
      have f4 : (v % 24 - 1 == 20) = false := beq_eq_false_iff_ne.2 (by omega)
      by_cases e5 : v % 24 = 22
      · obtain ⟨x, hx, hxl⟩ := nod_call (v / 24 % 3).toNat (by omega)
        have k2 : 0 ≤ v / 72 := by omega
        go_wp2_with (first | (go_at_call 23; refine HAt.out.mono ?_; rintro e w0 ⟨rfl, hq⟩; have hb0 : Below w.heap.size w w0 := (by obtain ⟨q, rfl⟩ := hq; exact below_drewN hbel q); have hb1 : Below wr.heap.size wr w0 := (by obtain ⟨q, rfl⟩ := hq; exact below_drewN (Below.refl _ _) q); have hsz0 := hb1.size; clear hq HAt) | (at_builtin; refine wpList_append_own _ rfl _ _ 30 rfl w.heap.size 53 i0 _ 6 64 Tryz.underlying30 hi hz0 hz1 hz2 rfl (by decide) _ _ _ rfl (own_below HO.out (by (repeat (first | exact Below.refl _ _ | assumption | refine Below.drew ?_ | refine below_drewN ?_ _ | refine Below.alloc ?_ (by first | omega | simp <;> omega) _ | refine Below.setCell ?_ (by first | omega | simp <;> omega) _)))) ⟨w0.heap.size + 1 + 1, 0, none⟩ 1 1 [.int .i64 21, .int .i64 0, .int .i64 0, str [], str x, .int .i64 (v / 72 % 4)] rfl rfl (by exact cells_6 (heap_new_at (by simp))) (by simp [Value.oneCell']) (by unfold maxLen; omega) (by omega) (by simp; omega) ?_; intro v' w3 hown3 hgrow _))
        obtain ⟨A3, c3, rfl⟩ := own_form hown3
        have hb3 : Below w.heap.size w w3 := (show Below w.heap.size w _ from by (repeat (first | exact Below.refl _ _ | assumption | refine Below.drew ?_ | refine below_drewN ?_ _ | refine Below.alloc ?_ (by first | omega | simp <;> omega) _ | refine Below.setCell ?_ (by first | omega | simp <;> omega) _))).grown hgrow (by simp; omega) (fun k hk => (HO.out.lt k hk).1)
        have HP := hide (own_push ⟨21, vl0, x, v / 72 % 4⟩ hown3)
        exact ⟨⟨es ++ [⟨21, vl0, x, v / 72 % 4⟩], A3, c3, by simp, by simp, by simp; omega, hide (HX.out.push (hxl)), HP.out, hb3⟩, by simp [intOf]; omega⟩
      have f5 : (v % 24 - 1 == 21) = false := beq_eq_false_iff_ne.2 (by omega)
      go_wp2_with (first | (go_at_call 23; refine HAt.out.mono ?_; rintro e w0 ⟨rfl, hq⟩; have hb0 : Below w.heap.size w w0 := (by obtain ⟨q, rfl⟩ := hq; exact below_drewN hbel q); have hb1 : Below wr.heap.size wr w0 := (by obtain ⟨q, rfl⟩ := hq; exact below_drewN (Below.refl _ _) q); have hsz0 := hb1.size; clear hq HAt) | (at_builtin; refine wpList_append_own _ rfl _ _ 30 rfl w.heap.size 53 i0 _ 6 64 Tryz.underlying30 hi hz0 hz1 hz2 rfl (by decide) _ _ _ rfl (own_below HO.out (by (repeat (first | exact Below.refl _ _ | assumption | refine Below.drew ?_ | refine below_drewN ?_ _ | refine Below.alloc ?_ (by first | omega | simp <;> omega) _ | refine Below.setCell ?_ (by first | omega | simp <;> omega) _)))) ⟨w0.heap.size + 1, 0, none⟩ 1 1 [.int .i64 (v % 24 - 1), .int .i64 0, .int .i64 0, str [], str [], .int .i64 0] rfl rfl (by exact cells_6 (heap_new_at (by simp))) (by simp [Value.oneCell']) (by unfold maxLen; omega) (by omega) (by simp; omega) ?_; intro v' w3 hown3 hgrow _))
      obtain ⟨A3, c3, rfl⟩ := own_form hown3
      have hb3 : Below w.heap.size w w3 := (show Below w.heap.size w _ from by (repeat (first | exact Below.refl _ _ | assumption | refine Below.drew ?_ | refine below_drewN ?_ _ | refine Below.alloc ?_ (by first | omega | simp <;> omega) _ | refine Below.setCell ?_ (by first | omega | simp <;> omega) _))).grown hgrow (by simp; omega) (fun k hk => (HO.out.lt k hk).1)
      have HP := hide (own_push ⟨v % 24 - 1, vl0, [], 0⟩ hown3)
      exact ⟨⟨es ++ [⟨v % 24 - 1, vl0, [], 0⟩], A3, c3, by simp, by simp, by simp; omega, hide (HX.out.push (by simp)), HP.out, hb3⟩, by simp [intOf]; omega⟩
    · obtain rfl : es.length = m := by omega
      go_wp2
      go_ret
      exact ⟨⟨es, rfl, HX.out, A, c, rfl, hown⟩, hbel⟩
end Go.Proofs.YtlfedcbihbigoaaGreatDoor
