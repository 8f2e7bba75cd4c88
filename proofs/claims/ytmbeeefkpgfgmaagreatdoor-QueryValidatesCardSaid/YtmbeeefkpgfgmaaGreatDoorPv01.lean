/- What further laws need besides: BaseVX TotN StR QrF RowQ Trod5Q -/
import Derived.Test.YtmbeeefkpgfgmaaGreatDoorPq06
import Derived.Laws.Rows
import Derived.Test.YtmbeeefkpgfgmaaGreatDoorPq18
import Derived.Test.YtmbeeefkpgfgmaaGreatDoorPq08
import Derived.RegionTactic
import Derived.ChangeAlike
import Derived.BigRegion
import Derived.Test.YtmbeeefkpgfgmaaGreatDoorPq21
import Derived.Test.YtmbeeefkpgfgmaaGreatDoorPq13
import Derived.Laws.OwnMore
import Derived.Test.YtmbeeefkpgfgmaaGreatDoorPq20
import Derived.Test.YtmbeeefkpgfgmaaGreatDoorPq48
import Derived.Carry
set_option linter.unusedVariables false
set_option linter.unusedSimpArgs false
namespace Go.Proofs.YtmbeeefkpgfgmaaGreatDoor
section
open Go.RowKit
open Go.RowKit
open Go.RowKit
def InstIs (e : Ending) : Prop := ∃ t : Int, 0 ≤ t ∧ t ≤ 575999999 ∧ e = .returned (.int .i64 t)
theorem six_ints : ∀ m : Nat, m < 6 → ∃ x : Int, [Value.int .i64 0, Value.int .i64 1, Value.int .i64 575999999, Value.int .i64 575999998, Value.int .i64 1439, Value.int .i64 1440][m]? = some (.int .i64 x) ∧ 0 ≤ x ∧ x ≤ 575999999
  | 0, _ => ⟨_, rfl, by decide⟩
  | 1, _ => ⟨_, rfl, by decide⟩
  | 2, _ => ⟨_, rfl, by decide⟩
  | 3, _ => ⟨_, rfl, by decide⟩
  | 4, _ => ⟨_, rfl, by decide⟩
  | 5, _ => ⟨_, rfl, by decide⟩
  | m + 6, h => absurd h (by omega)
theorem six_strs : ∀ m : Nat, m < 6 → ∃ x : Bytes, [Value.string ⟨#[97]⟩, Value.string ⟨#[98]⟩, Value.string ⟨#[99]⟩, Value.string ⟨#[]⟩, Value.string ⟨#[105, 116, 39, 115]⟩, Value.string ⟨#[97, 32, 98]⟩][m]? = some (str x) ∧ x.length ≤ 4
  | 0, _ => ⟨[97], rfl, by decide⟩
  | 1, _ => ⟨[98], rfl, by decide⟩
  | 2, _ => ⟨[99], rfl, by decide⟩
  | 3, _ => ⟨[], rfl, by decide⟩
  | 4, _ => ⟨[105, 116, 39, 115], rfl, by decide⟩
  | 5, _ => ⟨[97, 32, 98], rfl, by decide⟩
  | m + 6, h => absurd h (by omega)
set_option maxHeartbeats 1000000 in
theorem base_Moment_any (n : Int) (w : World) : Calls Tryz.prog 229 #[.int .i64 n] w fun e w' => InstIs e ∧ Below w.heap.size w w' := by
  have hm := and_ffff n
  have h1 := mask_1
  have h3 := mask_3
  have h15 := mask_15
  go_enter Tryz.func229, Tryz.ntmps229
  obtain ⟨x, hx, x0, x1⟩ := six_ints (n % 65536 % 6).toNat (by omega)
  go_wp2
  · go_ret
    exact ⟨⟨x, x0, x1, rfl⟩, by (repeat (first | exact Below.refl _ _ | assumption | refine Below.drew ?_ | refine below_drewN ?_ _ | refine Below.alloc ?_ (by first | omega | simp <;> omega) _ | refine Below.setCell ?_ (by first | omega | simp <;> omega) _))⟩
  · go_ret
    exact ⟨⟨_, by omega, by omega, rfl⟩, by (repeat (first | exact Below.refl _ _ | assumption | refine Below.drew ?_ | refine below_drewN ?_ _ | refine Below.alloc ?_ (by first | omega | simp <;> omega) _ | refine Below.setCell ?_ (by first | omega | simp <;> omega) _))⟩
def ValIs (e : Ending) : Prop := ∃ v : Vl, validV v.kind v.num v.text = true ∧ e = .returned v.agg
set_option maxRecDepth 100000 in
set_option maxHeartbeats 2000000 in
theorem base_Value_any (k n : Int) (w : World) : Calls Tryz.prog 157 #[.int .i64 k, .int .i64 n] w fun e w' => ValIs e ∧ Below w.heap.size w w' := by
  have hm := and_ffff n
  have h1 := mask_1
  have h3 := mask_3
  have h31 := mask_31
  obtain ⟨x, hx, x0⟩ := six_strs (n % 65536 % 6).toNat (by omega)
  go_enter Tryz.func157, Tryz.ntmps157
  go_wp2_with (go_at_call 229; refine (base_Moment_any _ _).mono ?_; rintro e w1 ⟨⟨t, t0, t1, rfl⟩, hb1⟩; have hh := heap_of_below (B := w.heap.size + 1) (by simpa using hb1) (Nat.lt_succ_self _); have r0 : w1.cell? ⟨w.heap.size, 0, none⟩ = some (.int .i64 0) := (by rw [cell_of_heap hh]; rfl); have r1 : w1.cell? ⟨w.heap.size, 1, none⟩ = some (.int .i64 0) := (by rw [cell_of_heap hh]; rfl); have r2 : w1.cell? ⟨w.heap.size, 2, none⟩ = some (str []) := (by rw [cell_of_heap hh]; rfl); have fr : ∀ i, w1.frozen? ⟨w.heap.size, i, none⟩ = false := (fun i => free_of_heap hh i); have hb2 : Below w.heap.size w w1 := Below.trans (by (repeat (first | exact Below.refl _ _ | assumption | refine Below.drew ?_ | refine below_drewN ?_ _ | refine Below.alloc ?_ (by first | omega | simp <;> omega) _ | refine Below.setCell ?_ (by first | omega | simp <;> omega) _))) (hb1.mono (by simp)); clear hb1 hh)
  · refine bodyPost_ret (v := (⟨1, n % 2, []⟩ : Vl).agg) (by simp [results, Tryz.results157, go_sem]) rfl ⟨⟨⟨1, n % 2, []⟩, by show validV 1 (n % 2) [] = true; unfold validV; simp; omega, rfl⟩, by (repeat (first | exact Below.refl _ _ | assumption | refine Below.drew ?_ | refine below_drewN ?_ _ | refine Below.alloc ?_ (by first | omega | simp <;> omega) _ | refine Below.setCell ?_ (by first | omega | simp <;> omega) _))⟩
  · refine bodyPost_ret (v := (⟨2, 1073741824 - n % 2, []⟩ : Vl).agg) (by simp [results, Tryz.results157, go_sem]) rfl ⟨⟨⟨2, 1073741824 - n % 2, []⟩, by show validV 2 (1073741824 - n % 2) [] = true; unfold validV; simp; omega, rfl⟩, by (repeat (first | exact Below.refl _ _ | assumption | refine Below.drew ?_ | refine below_drewN ?_ _ | refine Below.alloc ?_ (by first | omega | simp <;> omega) _ | refine Below.setCell ?_ (by first | omega | simp <;> omega) _))⟩
  · refine bodyPost_ret (v := (⟨2, n % 4 - 1073741824, []⟩ : Vl).agg) (by simp [results, Tryz.results157, go_sem]) rfl ⟨⟨⟨2, n % 4 - 1073741824, []⟩, by show validV 2 (n % 4 - 1073741824) [] = true; unfold validV; simp; omega, rfl⟩, by (repeat (first | exact Below.refl _ _ | assumption | refine Below.drew ?_ | refine below_drewN ?_ _ | refine Below.alloc ?_ (by first | omega | simp <;> omega) _ | refine Below.setCell ?_ (by first | omega | simp <;> omega) _))⟩
  · refine bodyPost_ret (v := (⟨2, n % 65536 % 7 - 2, []⟩ : Vl).agg) (by simp [results, Tryz.results157, go_sem]) rfl ⟨⟨⟨2, n % 65536 % 7 - 2, []⟩, by show validV 2 (n % 65536 % 7 - 2) [] = true; unfold validV; simp; omega, rfl⟩, by (repeat (first | exact Below.refl _ _ | assumption | refine Below.drew ?_ | refine below_drewN ?_ _ | refine Below.alloc ?_ (by first | omega | simp <;> omega) _ | refine Below.setCell ?_ (by first | omega | simp <;> omega) _))⟩
  · refine bodyPost_ret (v := (⟨3, 0, x⟩ : Vl).agg) (by simp [results, Tryz.results157, go_sem]) rfl ⟨⟨⟨3, 0, x⟩, by show validV 3 0 x = true; unfold validV; simp; omega, rfl⟩, by (repeat (first | exact Below.refl _ _ | assumption | refine Below.drew ?_ | refine below_drewN ?_ _ | refine Below.alloc ?_ (by first | omega | simp <;> omega) _ | refine Below.setCell ?_ (by first | omega | simp <;> omega) _))⟩
  · obtain ⟨s0, s1, s2⟩ := box3set' r0 r1 r2 (.int .i64 4) (.int .i64 t) (.string ⟨#[]⟩)
    refine bodyPost_ret (v := (⟨4, t, []⟩ : Vl).agg) (by simp [results, Tryz.results157, go_sem, s0, s1, s2]) rfl ⟨⟨⟨4, t, []⟩, by show validV 4 t [] = true; unfold validV; simp; omega, rfl⟩, by (repeat (first | exact Below.refl _ _ | assumption | refine Below.drew ?_ | refine below_drewN ?_ _ | refine Below.alloc ?_ (by first | omega | simp <;> omega) _ | refine Below.setCell ?_ (by first | omega | simp <;> omega) _))⟩
  · refine bodyPost_ret (v := (⟨0, 0, []⟩ : Vl).agg) (by simp [results, Tryz.results157, go_sem]) rfl ⟨⟨⟨0, 0, []⟩, rfl, rfl⟩, by (repeat (first | exact Below.refl _ _ | assumption | refine Below.drew ?_ | refine below_drewN ?_ _ | refine Below.alloc ?_ (by first | omega | simp <;> omega) _ | refine Below.setCell ?_ (by first | omega | simp <;> omega) _))⟩
theorem resbox3 {w w1 : World} {a b c : Value} {t : TypeId} (h : Below (w.alloc (.cells #[a, b, c] t)).heap.size (w.alloc (.cells #[a, b, c] t)) w1) :
    w1.cell? ⟨w.heap.size, 0, none⟩ = some a ∧ w1.cell? ⟨w.heap.size, 1, none⟩ = some b ∧ w1.cell? ⟨w.heap.size, 2, none⟩ = some c ∧ (∀ i, w1.frozen? ⟨w.heap.size, i, none⟩ = false) ∧ Below w.heap.size w w1 := by
  have hh := heap_of_below (B := w.heap.size + 1) (by simpa using h) (Nat.lt_succ_self _)
  exact ⟨by rw [cell_of_heap hh]; rfl, by rw [cell_of_heap hh]; rfl, by rw [cell_of_heap hh]; rfl, fun i => free_of_heap hh i, box_below (by simpa using h)⟩
theorem base_Any_any (n : Int) (w : World) (h0 : 0 ≤ n) : Calls Tryz.prog 87 #[.int .i64 n] w fun e w' => ValIs e ∧ Below w.heap.size w w' := by
  go_enter Tryz.func87, Tryz.ntmps87
  go_wp2_with (go_at_call 157; refine (base_Value_any _ _ _).mono ?_; rintro e w1 ⟨⟨v, hv, rfl⟩, hb1⟩; obtain ⟨r0, r1, r2, fr, hb2⟩ := resbox3 hb1; clear hb1)
  obtain ⟨s0, s1, s2⟩ := box3set' r0 r1 r2 (.int .i64 v.kind) (.int .i64 v.num) (.string ⟨v.text.toArray⟩)
  refine bodyPost_ret (v := v.agg) (by simp [results, Tryz.results87, go_sem, s0, s1, s2]) rfl ⟨⟨v, hv, rfl⟩, by (repeat (first | exact Below.refl _ _ | assumption | refine Below.drew ?_ | refine below_drewN ?_ _ | refine Below.alloc ?_ (by first | omega | simp <;> omega) _ | refine Below.setCell ?_ (by first | omega | simp <;> omega) _))⟩
end
section
open Go.RowKit
theorem nod_raw : ∀ m : Nat, m < 4 → ∃ x : Bytes, [Value.string ⟨#[97]⟩, Value.string ⟨#[98, 121]⟩, Value.string ⟨#[65]⟩, Value.string ⟨#[109, 46, 102]⟩][m]? = some (str x) ∧ x.length ≤ 9
  | 0, _ => ⟨[97], rfl, by decide⟩
  | 1, _ => ⟨[98, 121], rfl, by decide⟩
  | 2, _ => ⟨[65], rfl, by decide⟩
  | 3, _ => ⟨[109, 46, 102], rfl, by decide⟩
  | m + 4, h => absurd h (by omega)
theorem nod_col : ∀ m : Nat, m < 4 → ∃ x : Bytes, [Value.string ⟨#[97]⟩, Value.string ⟨#[98]⟩, Value.string ⟨#[118]⟩, Value.string ⟨#[100, 97, 121]⟩][m]? = some (str x) ∧ x.length ≤ 9
  | 0, _ => ⟨[97], rfl, by decide⟩
  | 1, _ => ⟨[98], rfl, by decide⟩
  | 2, _ => ⟨[118], rfl, by decide⟩
  | 3, _ => ⟨[100, 97, 121], rfl, by decide⟩
  | m + 4, h => absurd h (by omega)
theorem nod_day : ∀ m : Nat, m < 2 → ∃ x : Bytes, [Value.string ⟨#[122]⟩, Value.string ⟨#[109, 46, 122]⟩][m]? = some (str x) ∧ x.length ≤ 9
  | 0, _ => ⟨[122], rfl, by decide⟩
  | 1, _ => ⟨[109, 46, 122], rfl, by decide⟩
  | m + 2, h => absurd h (by omega)
theorem nod_call : ∀ m : Nat, m < 3 → ∃ x : Bytes, [Value.string ⟨#[102]⟩, Value.string ⟨#[109, 46, 103]⟩, Value.string ⟨#[105, 102]⟩][m]? = some (str x) ∧ x.length ≤ 9
  | 0, _ => ⟨[102], rfl, by decide⟩
  | 1, _ => ⟨[109, 46, 103], rfl, by decide⟩
  | 2, _ => ⟨[105, 102], rfl, by decide⟩
  | m + 3, h => absurd h (by omega)
theorem gen_world {K : World → Prop} {W : World} (R : World → Prop) (h : R W) (hK : ∀ W, R W → K W) : K W := hK W h
theorem cells6_of {W : World} {B : Nat} {a b c d e f : Value} {t : TypeId} (h : W.heap[B]? = some (.cells #[a, b, c, d, e, f] t)) :
    W.cell? ⟨B, 0, none⟩ = some a ∧ W.cell? ⟨B, 1, none⟩ = some b ∧ W.cell? ⟨B, 2, none⟩ = some c ∧ W.cell? ⟨B, 3, none⟩ = some d ∧ W.cell? ⟨B, 4, none⟩ = some e ∧ W.cell? ⟨B, 5, none⟩ = some f :=
  ⟨cell_of_heap h 0, cell_of_heap h 1, cell_of_heap h 2, cell_of_heap h 3, cell_of_heap h 4, cell_of_heap h 5⟩
theorem box5at {w : World} {B : Nat} {x y z u v : Value} (h1 : w.cell? ⟨B, 1, none⟩ = some x) (h2 : w.cell? ⟨B, 2, none⟩ = some y) (h3 : w.cell? ⟨B, 3, none⟩ = some z) (h4 : w.cell? ⟨B, 4, none⟩ = some u) (h5 : w.cell? ⟨B, 5, none⟩ = some v) :
    (∀ a, (w.setCell ⟨B, 4, none⟩ a).cell? ⟨B, 4, none⟩ = some a) ∧ (∀ a b, ((w.setCell ⟨B, 4, none⟩ a).setCell ⟨B, 5, none⟩ b).cell? ⟨B, 5, none⟩ = some b) ∧
    (∀ a b c, (((w.setCell ⟨B, 4, none⟩ a).setCell ⟨B, 5, none⟩ b).setCell ⟨B, 1, none⟩ c).cell? ⟨B, 1, none⟩ = some c) ∧
    (∀ a b c d, ((((w.setCell ⟨B, 4, none⟩ a).setCell ⟨B, 5, none⟩ b).setCell ⟨B, 1, none⟩ c).setCell ⟨B, 2, none⟩ d).cell? ⟨B, 2, none⟩ = some d) ∧
    (∀ a b c d e, (((((w.setCell ⟨B, 4, none⟩ a).setCell ⟨B, 5, none⟩ b).setCell ⟨B, 1, none⟩ c).setCell ⟨B, 2, none⟩ d).setCell ⟨B, 3, none⟩ e).cell? ⟨B, 3, none⟩ = some e) := by
  refine ⟨fun a => World.cell?_setCell_same _ _ _ h4, fun a b => World.cell?_setCell_same (u := v) _ _ _ ?_, fun a b c => World.cell?_setCell_same (u := x) _ _ _ ?_, fun a b c d => World.cell?_setCell_same (u := y) _ _ _ ?_, fun a b c d e => World.cell?_setCell_same (u := z) _ _ _ ?_⟩
  · rw [World.cell?_setCell_other _ _ _ _ (by simp)]; exact h5
  · rw [World.cell?_setCell_other _ _ _ _ (by simp), World.cell?_setCell_other _ _ _ _ (by simp)]; exact h1
  · rw [World.cell?_setCell_other _ _ _ _ (by simp), World.cell?_setCell_other _ _ _ _ (by simp), World.cell?_setCell_other _ _ _ _ (by simp)]; exact h2
  · rw [World.cell?_setCell_other _ _ _ _ (by simp), World.cell?_setCell_other _ _ _ _ (by simp), World.cell?_setCell_other _ _ _ _ (by simp), World.cell?_setCell_other _ _ _ _ (by simp)]; exact h3
theorem box3at {w : World} {B : Nat} {x y z : Value} (h1 : w.cell? ⟨B, 1, none⟩ = some x) (h2 : w.cell? ⟨B, 2, none⟩ = some y) (h3 : w.cell? ⟨B, 3, none⟩ = some z) (a b c : Value) :
    (w.setCell ⟨B, 1, none⟩ a).cell? ⟨B, 1, none⟩ = some a ∧ ((w.setCell ⟨B, 1, none⟩ a).setCell ⟨B, 2, none⟩ b).cell? ⟨B, 2, none⟩ = some b ∧ (((w.setCell ⟨B, 1, none⟩ a).setCell ⟨B, 2, none⟩ b).setCell ⟨B, 3, none⟩ c).cell? ⟨B, 3, none⟩ = some c := by
  refine ⟨World.cell?_setCell_same _ _ _ h1, World.cell?_setCell_same (u := y) _ _ _ ?_, World.cell?_setCell_same (u := z) _ _ _ ?_⟩
  · rw [World.cell?_setCell_other _ _ _ _ (by simp)]; exact h2
  · rw [World.cell?_setCell_other _ _ _ _ (by simp), World.cell?_setCell_other _ _ _ _ (by simp)]; exact h3
set_option maxRecDepth 100000 in
set_option maxHeartbeats 8000000 in
theorem base_Nodes_any (L : Option Addr) (l : List Int) (lc m : Nat) (w : World) (hL : IntsAt w L l) (hm : m ≤ 10) :
    Calls Tryz.prog 35 #[.slice L l.length lc, .int .i64 (m : Int)] w fun e w' => (∃ es : List Nd, es.length = m ∧ NamesOk es ∧ OwnNds w w' es e) ∧ Below w.heap.size w w' := by
  have HL := hide hL
  clear hL
  obtain ⟨i0, hi, hz0, hz1, hz2⟩ := info_parts Tryz.info_nd
  have q1 := mask_1
  have q3 := mask_3
  have q15 := mask_15
  go_enter Tryz.func35, Tryz.ntmps35
  go_wp2
  go_loopw [5, 6] (fun s i wr => ∃ (es : List Nd) (A : Option Addr) (c : Nat), s = .slice A es.length c ∧ i = .int .i64 es.length ∧ es.length ≤ m ∧ Hid (NamesOk es) ∧
      wr.ownsRow w.heap.size 116 6 (.slice A es.length c) es.length (ndCells es) ∧ Below w.heap.size w wr) (fun _ i _ => m - (intOf i).toNat)
  case atStart => exact ⟨[], none, 0, rfl, rfl, by simp, hide (fun n hn => (List.not_mem_nil hn).elim), own_nil _ _ _ _, Below.refl _ _⟩
  case round =>
    obtain ⟨es, A, c, rfl, rfl, hk, HX, hown, hbel⟩ := hrel
    have hsz := hbel.size
    by_cases hlt : es.length < m
    · have hn0 := lAt_nn l es.length
      have hn1 := lAt_top l es.length
      have HAt := hide (base_At_any L l es.length wr lc (HL.out.below hbel))
      have HO := hide hown
      clear hown
      generalize lAt l es.length = v at *
      have k0 : 0 ≤ v / 24 := by omega
      have k1 : v / 24 ≤ 131072 := by omega
      by_cases e1 : v / 256 % 16 = 0
      · obtain ⟨x, hx, hxl⟩ := nod_raw (v % 4).toNat (by omega)
        obtain ⟨hxk, hx2⟩ := List.getElem?_eq_some_iff.1 hx
        have ht : v.tmod 4 = v % 4 := Int.tmod_eq_emod_of_nonneg hn0
        have hm0 : 0 ≤ v % 4 := by omega
        have hm1 : v % 4 < 4 := by omega
        have f1 : (v / 256 % 16 == 0) = true := by rw [e1]; rfl
        go_wp2_with (go_at_call 70; refine HAt.out.mono ?_; rintro e w0 ⟨rfl, hq⟩; have hb0 : Below w.heap.size w w0 := (by obtain ⟨q, rfl⟩ := hq; exact below_drewN hbel q); have hb1 : Below wr.heap.size wr w0 := (by obtain ⟨q, rfl⟩ := hq; exact below_drewN (Below.refl _ _) q); have hsz0 := hb1.size; clear hq HAt)
        have hl0 : w0.heap.size < w0.heap.size + 1 := Nat.lt_succ_self _
        have hwr : IntKind.i64.wrap (v / 8 % 4 - 1) = v / 8 % 4 - 1 := IntWalk.i64_in _ (by omega)
        first | (go_region_with (go_at_call 87; refine (base_Any_any _ _ hn0).mono ?_; rintro e w1 ⟨⟨vv, hvv, rfl⟩, hb2⟩; have q8 := hb2.block w0.heap.size (by first | (simp; done) | (simp; omega)); have hxb : w1.heap[w0.heap.size]? = some (ndBox (v % 24 - 1) 0 0 ⟨#[]⟩ ⟨#[]⟩ 0) := (by first | exact q8.trans (heap_alloc_new _ _) | exact q8.trans ((heap_alloc_old _ _ (by simp)).trans (heap_alloc_new _ _))); have hb3 : Below wr.heap.size wr w1 := Below.trans (by (repeat (first | exact Below.refl _ _ | assumption | refine Below.drew ?_ | refine below_drewN ?_ _ | refine Below.alloc ?_ (by first | omega | simp <;> omega) _ | refine Below.setCell ?_ (by first | omega | simp <;> omega) _))) (hb2.mono (by first | (simp; done) | (simp; omega))); have hlt1 := lt_of_heap hxb; have fr : ∀ i, w1.frozen? ⟨w0.heap.size, i, none⟩ = false := (fun i => free_of_heap hxb i); obtain ⟨r0, r1, r2, r3, r4, r5⟩ := cells6_of hxb; obtain ⟨s4, s5, s1, s2, s3⟩ := box5at r1 r2 r3 r4 r5; (first | (have q9 := hb2.block (w0.heap.size + 1) (by first | (simp; done) | (simp; omega)); have hyb : w1.heap[w0.heap.size + 1]? = some (.cells #[Value.string ⟨#[97]⟩, Value.string ⟨#[98, 121]⟩, Value.string ⟨#[65]⟩, Value.string ⟨#[109, 46, 102]⟩] 9) := q9.trans (heap_new_at (by simp)); have hyc : w1.cell? ⟨w0.heap.size + 1, (v % 4).toNat, none⟩ = some (str x) := (by rw [cell_of_heap hyb]; simpa using hx); clear q9 hyb) | skip); clear q8 hxb hb2)) | fail
        all_goals
          refine gen_world (fun W => Below wr.heap.size wr W ∧ W.cell? ⟨w0.heap.size, 0, none⟩ = some (.int .i64 (v % 24 - 1)) ∧ W.cell? ⟨w0.heap.size, 1, none⟩ = some (.int .i64 vv.kind) ∧ W.cell? ⟨w0.heap.size, 2, none⟩ = some (.int .i64 vv.num) ∧ W.cell? ⟨w0.heap.size, 3, none⟩ = some (str vv.text) ∧ W.cell? ⟨w0.heap.size, 4, none⟩ = some (str x) ∧ W.cell? ⟨w0.heap.size, 5, none⟩ = some (.int .i64 (v / 8 % 4 - 1))) ?_ ?_
          · refine ⟨?_, ?_, ?_, ?_, ?_, ?_, ?_⟩
            · (repeat (with_reducible (first | exact hb3 | refine Below.drew ?_ | refine Below.alloc ?_ (by first | omega | (simp; omega)) _ | refine Below.setCell ?_ (by first | omega | (simp; omega)) _)))
            all_goals go_simp
          rintro W ⟨hb5, n0, n1, n2, n3, n4, n5⟩
          clear s1 s2 s3 s4 s5 r0 r1 r2 r3 r4 r5 fr
          have hb4 := bel2 hb5 hbel
          have hsW := hb5.size
          go_wp2_with (at_builtin; refine wpList_append_own _ rfl _ _ 25 rfl w.heap.size 116 i0 _ 6 64 Tryz.underlying25 hi hz0 hz1 hz2 rfl (by decide) _ _ _ rfl (own_below HO.out (by (repeat (first | exact Below.refl _ _ | assumption | refine Below.drew ?_ | refine below_drewN ?_ _ | refine Below.alloc ?_ (by first | omega | simp <;> omega) _ | refine Below.setCell ?_ (by first | omega | simp <;> omega) _)))) ⟨W.heap.size, 0, none⟩ 1 1 [.int .i64 (v % 24 - 1), .int .i64 vv.kind, .int .i64 vv.num, str vv.text, str x, .int .i64 (v / 8 % 4 - 1)] rfl rfl (by exact cells_6 (heap_new_at (by simp))) (by simp [Value.oneCell']) (by unfold maxLen; omega) (by omega) (by simp; omega) ?_; intro v' w3 hown3 hgrow _)
          obtain ⟨A3, c3, rfl⟩ := own_form hown3
          have hb3 : Below w.heap.size w w3 := (show Below w.heap.size w _ from by (repeat (first | exact Below.refl _ _ | assumption | refine Below.drew ?_ | refine below_drewN ?_ _ | refine Below.alloc ?_ (by first | omega | simp <;> omega) _ | refine Below.setCell ?_ (by first | omega | simp <;> omega) _))).grown hgrow (by simp; omega) (fun k hk => (HO.out.lt k hk).1)
          have HP := hide (own_push ⟨v % 24 - 1, vv, x, v / 8 % 4 - 1⟩ hown3)
          exact ⟨⟨es ++ [⟨v % 24 - 1, vv, x, v / 8 % 4 - 1⟩], A3, c3, by simp, by simp, by simp; omega, hide (HX.out.push (hxl)), HP.out, hb3⟩, by simp [intOf]; omega⟩
      have f1 : (v / 256 % 16 == 0) = false := beq_eq_false_iff_ne.2 e1
      by_cases e2 : v % 24 = 1
      · go_wp2_with (go_at_call 70; refine HAt.out.mono ?_; rintro e w0 ⟨rfl, hq⟩; have hb0 : Below w.heap.size w w0 := (by obtain ⟨q, rfl⟩ := hq; exact below_drewN hbel q); have hb1 : Below wr.heap.size wr w0 := (by obtain ⟨q, rfl⟩ := hq; exact below_drewN (Below.refl _ _) q); have hsz0 := hb1.size; clear hq HAt)
        have hbx := Below.refl (w0.heap.size + 1) (w0.alloc (ndBox 0 0 0 ⟨#[]⟩ ⟨#[]⟩ 0))
        refine (base_Any_any _ _ k0).mono ?_
        rintro e w1 ⟨⟨vv, hvv, rfl⟩, hb2⟩
        have hcur := below_go hbx (by simp) hb2
        obtain ⟨r0, r1, r2, r3, r4, r5, rl⟩ := box6 hcur
        have hh := heap_of_below hcur (Nat.lt_succ_self _)
        have fr : ∀ i, w1.frozen? ⟨w0.heap.size, i, none⟩ = false := fun i => free_of_heap hh i
        have hb3 : Below wr.heap.size wr w1 := hb1.trans ((box_below hcur).mono hsz0)
        have hb4 := bel2 hb3 hbel
        have hsz1 := hb3.size
        obtain ⟨s1, s2, s3⟩ := box3at r1 r2 r3 (.int .i64 vv.kind) (.int .i64 vv.num) (.string ⟨vv.text.toArray⟩)
        clear hbx hb2 hcur hh
        go_wp2_with (at_builtin; refine wpList_append_own _ rfl _ _ 25 rfl w.heap.size 116 i0 _ 6 64 Tryz.underlying25 hi hz0 hz1 hz2 rfl (by decide) _ _ _ rfl (own_below HO.out (by (repeat (first | exact Below.refl _ _ | assumption | refine Below.drew ?_ | refine below_drewN ?_ _ | refine Below.alloc ?_ (by first | omega | simp <;> omega) _ | refine Below.setCell ?_ (by first | omega | simp <;> omega) _)))) ⟨w1.heap.size, 0, none⟩ 1 1 [.int .i64 0, .int .i64 vv.kind, .int .i64 vv.num, str vv.text, str [], .int .i64 0] rfl rfl (by exact cells_6 (heap_new_at (by simp))) (by simp [Value.oneCell']) (by unfold maxLen; omega) (by omega) (by simp; omega) ?_; intro v' w3 hown3 hgrow _)
        obtain ⟨A3, c3, rfl⟩ := own_form hown3
        have hb3 : Below w.heap.size w w3 := (show Below w.heap.size w _ from by (repeat (first | exact Below.refl _ _ | assumption | refine Below.drew ?_ | refine below_drewN ?_ _ | refine Below.alloc ?_ (by first | omega | simp <;> omega) _ | refine Below.setCell ?_ (by first | omega | simp <;> omega) _))).grown hgrow (by simp; omega) (fun k hk => (HO.out.lt k hk).1)
        have HP := hide (own_push ⟨0, vv, [], 0⟩ hown3)
        exact ⟨⟨es ++ [⟨0, vv, [], 0⟩], A3, c3, by simp, by simp, by simp; omega, hide (HX.out.push (by simp)), HP.out, hb3⟩, by simp [intOf]; omega⟩
      have f2 : (v % 24 - 1 == 0) = false := beq_eq_false_iff_ne.2 (by omega)
      by_cases e3 : v % 24 = 2
      · obtain ⟨x, hx, hxl⟩ := nod_col (v / 24 % 4).toNat (by omega)
        go_wp2_with (first | (go_at_call 70; refine HAt.out.mono ?_; rintro e w0 ⟨rfl, hq⟩; have hb0 : Below w.heap.size w w0 := (by obtain ⟨q, rfl⟩ := hq; exact below_drewN hbel q); have hb1 : Below wr.heap.size wr w0 := (by obtain ⟨q, rfl⟩ := hq; exact below_drewN (Below.refl _ _) q); have hsz0 := hb1.size; clear hq HAt) | (at_builtin; refine wpList_append_own _ rfl _ _ 25 rfl w.heap.size 116 i0 _ 6 64 Tryz.underlying25 hi hz0 hz1 hz2 rfl (by decide) _ _ _ rfl (own_below HO.out (by (repeat (first | exact Below.refl _ _ | assumption | refine Below.drew ?_ | refine below_drewN ?_ _ | refine Below.alloc ?_ (by first | omega | simp <;> omega) _ | refine Below.setCell ?_ (by first | omega | simp <;> omega) _)))) ⟨w0.heap.size + 1 + 1, 0, none⟩ 1 1 [.int .i64 1, .int .i64 0, .int .i64 0, str [], str x, .int .i64 0] rfl rfl (by exact cells_6 (heap_new_at (by simp))) (by simp [Value.oneCell']) (by unfold maxLen; omega) (by omega) (by simp; omega) ?_; intro v' w3 hown3 hgrow _))
        obtain ⟨A3, c3, rfl⟩ := own_form hown3
        have hb3 : Below w.heap.size w w3 := (show Below w.heap.size w _ from by (repeat (first | exact Below.refl _ _ | assumption | refine Below.drew ?_ | refine below_drewN ?_ _ | refine Below.alloc ?_ (by first | omega | simp <;> omega) _ | refine Below.setCell ?_ (by first | omega | simp <;> omega) _))).grown hgrow (by simp; omega) (fun k hk => (HO.out.lt k hk).1)
        have HP := hide (own_push ⟨1, vl0, x, 0⟩ hown3)
        exact ⟨⟨es ++ [⟨1, vl0, x, 0⟩], A3, c3, by simp, by simp, by simp; omega, hide (HX.out.push (hxl)), HP.out, hb3⟩, by simp [intOf]; omega⟩
      have f3 : (v % 24 - 1 == 1) = false := beq_eq_false_iff_ne.2 (by omega)
      by_cases e4 : v % 24 = 21
      · obtain ⟨x, hx, hxl⟩ := nod_day (v / 24 % 2).toNat (by omega)
        go_wp2_with (first | (go_at_call 70; refine HAt.out.mono ?_; rintro e w0 ⟨rfl, hq⟩; have hb0 : Below w.heap.size w w0 := (by obtain ⟨q, rfl⟩ := hq; exact below_drewN hbel q); have hb1 : Below wr.heap.size wr w0 := (by obtain ⟨q, rfl⟩ := hq; exact below_drewN (Below.refl _ _) q); have hsz0 := hb1.size; clear hq HAt) | (at_builtin; refine wpList_append_own _ rfl _ _ 25 rfl w.heap.size 116 i0 _ 6 64 Tryz.underlying25 hi hz0 hz1 hz2 rfl (by decide) _ _ _ rfl (own_below HO.out (by (repeat (first | exact Below.refl _ _ | assumption | refine Below.drew ?_ | refine below_drewN ?_ _ | refine Below.alloc ?_ (by first | omega | simp <;> omega) _ | refine Below.setCell ?_ (by first | omega | simp <;> omega) _)))) ⟨w0.heap.size + 1 + 1, 0, none⟩ 1 1 [.int .i64 20, .int .i64 0, .int .i64 0, str [], str x, .int .i64 0] rfl rfl (by exact cells_6 (heap_new_at (by simp))) (by simp [Value.oneCell']) (by unfold maxLen; omega) (by omega) (by simp; omega) ?_; intro v' w3 hown3 hgrow _))
        obtain ⟨A3, c3, rfl⟩ := own_form hown3
        have hb3 : Below w.heap.size w w3 := (show Below w.heap.size w _ from by (repeat (first | exact Below.refl _ _ | assumption | refine Below.drew ?_ | refine below_drewN ?_ _ | refine Below.alloc ?_ (by first | omega | simp <;> omega) _ | refine Below.setCell ?_ (by first | omega | simp <;> omega) _))).grown hgrow (by simp; omega) (fun k hk => (HO.out.lt k hk).1)
        have HP := hide (own_push ⟨20, vl0, x, 0⟩ hown3)
        exact ⟨⟨es ++ [⟨20, vl0, x, 0⟩], A3, c3, by simp, by simp, by simp; omega, hide (HX.out.push (hxl)), HP.out, hb3⟩, by simp [intOf]; omega⟩
      have f4 : (v % 24 - 1 == 20) = false := beq_eq_false_iff_ne.2 (by omega)
      by_cases e5 : v % 24 = 22
      · obtain ⟨x, hx, hxl⟩ := nod_call (v / 24 % 3).toNat (by omega)
        have k2 : 0 ≤ v / 72 := by omega
        go_wp2_with (first | (go_at_call 70; refine HAt.out.mono ?_; rintro e w0 ⟨rfl, hq⟩; have hb0 : Below w.heap.size w w0 := (by obtain ⟨q, rfl⟩ := hq; exact below_drewN hbel q); have hb1 : Below wr.heap.size wr w0 := (by obtain ⟨q, rfl⟩ := hq; exact below_drewN (Below.refl _ _) q); have hsz0 := hb1.size; clear hq HAt) | (at_builtin; refine wpList_append_own _ rfl _ _ 25 rfl w.heap.size 116 i0 _ 6 64 Tryz.underlying25 hi hz0 hz1 hz2 rfl (by decide) _ _ _ rfl (own_below HO.out (by (repeat (first | exact Below.refl _ _ | assumption | refine Below.drew ?_ | refine below_drewN ?_ _ | refine Below.alloc ?_ (by first | omega | simp <;> omega) _ | refine Below.setCell ?_ (by first | omega | simp <;> omega) _)))) ⟨w0.heap.size + 1 + 1, 0, none⟩ 1 1 [.int .i64 21, .int .i64 0, .int .i64 0, str [], str x, .int .i64 (v / 72 % 4)] rfl rfl (by exact cells_6 (heap_new_at (by simp))) (by simp [Value.oneCell']) (by unfold maxLen; omega) (by omega) (by simp; omega) ?_; intro v' w3 hown3 hgrow _))
        obtain ⟨A3, c3, rfl⟩ := own_form hown3
        have hb3 : Below w.heap.size w w3 := (show Below w.heap.size w _ from by (repeat (first | exact Below.refl _ _ | assumption | refine Below.drew ?_ | refine below_drewN ?_ _ | refine Below.alloc ?_ (by first | omega | simp <;> omega) _ | refine Below.setCell ?_ (by first | omega | simp <;> omega) _))).grown hgrow (by simp; omega) (fun k hk => (HO.out.lt k hk).1)
        have HP := hide (own_push ⟨21, vl0, x, v / 72 % 4⟩ hown3)
        exact ⟨⟨es ++ [⟨21, vl0, x, v / 72 % 4⟩], A3, c3, by simp, by simp, by simp; omega, hide (HX.out.push (hxl)), HP.out, hb3⟩, by simp [intOf]; omega⟩
      have f5 : (v % 24 - 1 == 21) = false := beq_eq_false_iff_ne.2 (by omega)
      go_wp2_with (first | (go_at_call 70; refine HAt.out.mono ?_; rintro e w0 ⟨rfl, hq⟩; have hb0 : Below w.heap.size w w0 := (by obtain ⟨q, rfl⟩ := hq; exact below_drewN hbel q); have hb1 : Below wr.heap.size wr w0 := (by obtain ⟨q, rfl⟩ := hq; exact below_drewN (Below.refl _ _) q); have hsz0 := hb1.size; clear hq HAt) | (at_builtin; refine wpList_append_own _ rfl _ _ 25 rfl w.heap.size 116 i0 _ 6 64 Tryz.underlying25 hi hz0 hz1 hz2 rfl (by decide) _ _ _ rfl (own_below HO.out (by (repeat (first | exact Below.refl _ _ | assumption | refine Below.drew ?_ | refine below_drewN ?_ _ | refine Below.alloc ?_ (by first | omega | simp <;> omega) _ | refine Below.setCell ?_ (by first | omega | simp <;> omega) _)))) ⟨w0.heap.size + 1, 0, none⟩ 1 1 [.int .i64 (v % 24 - 1), .int .i64 0, .int .i64 0, str [], str [], .int .i64 0] rfl rfl (by exact cells_6 (heap_new_at (by simp))) (by simp [Value.oneCell']) (by unfold maxLen; omega) (by omega) (by simp; omega) ?_; intro v' w3 hown3 hgrow _))
      obtain ⟨A3, c3, rfl⟩ := own_form hown3
      have hb3 : Below w.heap.size w w3 := (show Below w.heap.size w _ from by (repeat (first | exact Below.refl _ _ | assumption | refine Below.drew ?_ | refine below_drewN ?_ _ | refine Below.alloc ?_ (by first | omega | simp <;> omega) _ | refine Below.setCell ?_ (by first | omega | simp <;> omega) _))).grown hgrow (by simp; omega) (fun k hk => (HO.out.lt k hk).1)
      have HP := hide (own_push ⟨v % 24 - 1, vl0, [], 0⟩ hown3)
      exact ⟨⟨es ++ [⟨v % 24 - 1, vl0, [], 0⟩], A3, c3, by simp, by simp, by simp; omega, hide (HX.out.push (by simp)), HP.out, hb3⟩, by simp [intOf]; omega⟩
    · obtain rfl : es.length = m := by omega
      go_wp2
      go_ret
      exact ⟨⟨es, rfl, HX.out, A, c, rfl, hown⟩, hbel⟩
end
section
open Go.RowKit
theorem stCells_len : ∀ (ss : List Stp) (az : List Adr), az.length = ss.length → (stCells ss az).length = ss.length * 6
  | [], _, _ => rfl
  | s :: ss, [], h => by simp at h
  | s :: ss, a :: az, h => by
    show (s.cells a ++ stCells ss az).length = _
    rw [List.length_append, stCells_len ss az (by simpa using h), Stp.cells_len, List.length_cons]
    omega
theorem stCells_set : ∀ (ss : List Stp) (az : List Adr) (i : Nat) (h : i < ss.length) (h' : i < az.length) (f : Nat) (u : Value) (s' : Stp) (a' : Adr), f < 6 → (ss[i].cells az[i]).set f u = s'.cells a' →
    (stCells ss az).set (i * 6 + f) u = stCells (ss.set i s') (az.set i a')
  | [], _, i, h, _, _, _, _, _, _, _ => absurd h (by simp)
  | _ :: _, [], i, _, h', _, _, _, _, _, _ => absurd h' (by simp)
  | s :: ss, a :: az, 0, h, h', f, u, s', a', hf, e => by
    rw [Nat.zero_mul, Nat.zero_add]
    show (s.cells a ++ stCells ss az).set f u = s'.cells a' ++ stCells ss az
    rw [List.set_append_left _ _ (by rw [Stp.cells_len]; exact hf)]
    congr 1
  | s :: ss, a :: az, i + 1, h, h', f, u, s', a', hf, e => by
    show (s.cells a ++ stCells ss az).set ((i + 1) * 6 + f) u = s.cells a ++ stCells (ss.set i s') (az.set i a')
    rw [List.set_append_right _ _ (by rw [Stp.cells_len]; omega), show (i + 1) * 6 + f - (s.cells a).length = i * 6 + f by rw [Stp.cells_len]; omega]
    rw [stCells_set ss az i (by simpa using h) (by simpa using h') f u s' a' hf (by simpa using e)]
theorem stCells_one : ∀ (ss : List Stp) (az : List Adr), ∀ u ∈ stCells ss az, u.oneCell' = true
  | [], _, u, h => absurd h (by simp [stCells])
  | _ :: _, [], u, h => absurd h (by simp [stCells])
  | s :: ss, a :: az, u, h => by
    rcases List.mem_append.1 (show u ∈ s.cells a ++ stCells ss az from h) with h | h
    · simp only [Stp.cells, List.mem_cons, List.not_mem_nil, or_false] at h
      rcases h with rfl | rfl | rfl | rfl | rfl | rfl <;> simp [Value.oneCell']
    · exact stCells_one ss az u h
end
section
open Go.RowKit
set_option maxRecDepth 100000 in
set_option maxHeartbeats 2000000 in
theorem ref11_Validate_any (A : Option Addr) (ss : List Stp) (c : Nat) (w : World) (h : StpsAt w A ss) (hl : ss.length ≤ 1000000) (hk : StsOk ss) :
    Calls Tryz.prog 18 #[.slice A ss.length c] w fun e w' => e = .returned (.int .i64 (queryS ss)) ∧ Below w.heap.size w w' := by
  have HA := hide h
  have HK := hide hk
  clear h hk
  by_cases h1 : ss.length < 1
  · have HE := hide (show queryS ss = 2 from by unfold queryS; rw [if_pos (.inl h1)])
    go_enter Tryz.func18, Tryz.ntmps18
    go_wp2
    all_goals first | (exfalso; omega) | skip
    go_ret
    exact ⟨ret_int HE.out.symm, Below.refl _ _⟩
  by_cases h2 : 16 < ss.length
  · have HE := hide (show queryS ss = 2 from by unfold queryS; rw [if_pos (.inr h2)])
    go_enter Tryz.func18, Tryz.ntmps18
    go_wp2
    all_goals first | (exfalso; omega) | skip
    go_ret
    exact ⟨ret_int HE.out.symm, Below.refl _ _⟩
  have HE := hide (queryS_in (ss := ss) (by omega))
  generalize queryS ss = r at *
  go_enter Tryz.func18, Tryz.ntmps18
  go_wp2
  all_goals first | (exfalso; omega) | skip
  go_loopw [3] (fun i wr => ∃ k : Nat, k ≤ ss.length ∧ i = .int .i64 k ∧ Hid (∀ j, j < k → queryF ss j = 0) ∧ Below w.heap.size w wr) (fun i _ => ss.length - (intOf i).toNat)
  case atStart => exact ⟨0, by omega, rfl, fun j hj => absurd hj (Nat.not_lt_zero _), Below.refl _ _⟩
  case round =>
    obtain ⟨k, hk, rfl, HZ, hbel⟩ := hrel
    by_cases hlt : k < ss.length
    · rcases HA.out.below hbel with e | ⟨g, off, rfl, hg, hc⟩
      · exact absurd hlt (by rw [e]; simp)
      obtain ⟨a, ha, c0, c1, c2, c3, c4, c5⟩ := hc k hlt
      have HV := hide (ref11_ValidateStep_any ss[k] a wr ha (HK.out _ (List.getElem_mem hlt)))
      have HT := hide (queryF_at hlt)
      have HF := hide (fun x (e : queryF ss k = x) (hx : x ≠ 0) => (HE.out.trans (firstE_hit HZ.out (by rw [e]; exact hx) hlt)).trans e)
      have HN := hide (fun (e : queryF ss k = 0) => step_lt HZ.out e)
      have HC0 := hide (fun W (hb : Below wr.heap.size wr W) => (hb.cell (p := ⟨g, off + k * 6, none⟩) hg).trans c0)
      clear hc ha
      generalize stepS ss[k] = v at *
      obtain ⟨x, hx⟩ : ∃ x, x = ss[k] := ⟨_, rfl⟩
      rw [← hx] at c0 c1 c2 c3 c4 c5 HV HT HC0
      clear hx
      by_cases hv : v = 0
      rotate_left
      · have hvb : (v != 0) = true := by simpa using hv
        have HR := hide (HF.out v (by rw [HT.out, if_neg hv]) hv)
        clear HT HF HN hv
        go_wp2_with (go_at_call 16; refine (HV.out).mono ?_; rintro e w1 ⟨rfl, hb1⟩)
        go_ret
        exact ⟨ret_int HR.out.symm, bel2 hb1 hbel⟩
      subst hv
      have HT2 := hide (HT.out.trans (if_pos rfl))
      by_cases ho : x.op = 0
      · have hp : (x.op == 0) = true := by simpa using ho
        by_cases hk0 : k = 0
        · have hq : ((k : Int) == 0) = true := by simpa using hk0
          have HR := hide (HN.out (HT2.out.trans (if_pos (by simp [ho, hk0]))))
          clear HT HF HN HT2 ho hk0
          go_wp2_with (go_at_call 16; refine (HV.out).mono ?_; rintro e w1 ⟨rfl, hb1⟩; have d0 := HC0.out _ hb1)
          exact ⟨⟨k + 1, by omega, by go_num, HR, bel2 hb1 hbel⟩, by simp [intOf]; omega⟩
        · have hq : ((k : Int) == 0) = false := beq_eq_false_iff_ne.2 (by omega)
          have HR := hide (HF.out 8 (HT2.out.trans (if_neg (by simp [ho, hk0]))) (by decide))
          clear HT HF HN HT2 ho hk0
          go_wp2_with (go_at_call 16; refine (HV.out).mono ?_; rintro e w1 ⟨rfl, hb1⟩; have d0 := HC0.out _ hb1)
          go_ret
          exact ⟨ret_int HR.out.symm, bel2 hb1 hbel⟩
      · have hp : (x.op == 0) = false := beq_eq_false_iff_ne.2 ho
        by_cases hk0 : k = 0
        · have hq : ((k : Int) == 0) = true := by simpa using hk0
          have HR := hide (HF.out 8 (HT2.out.trans (if_neg (by simp [ho, hk0]))) (by decide))
          clear HT HF HN HT2 ho hk0
          go_wp2_with (go_at_call 16; refine (HV.out).mono ?_; rintro e w1 ⟨rfl, hb1⟩; have d0 := HC0.out _ hb1)
          go_ret
          exact ⟨ret_int HR.out.symm, bel2 hb1 hbel⟩
        · have hq : ((k : Int) == 0) = false := beq_eq_false_iff_ne.2 (by omega)
          have HR := hide (HN.out (HT2.out.trans (if_pos (by simp [ho, hk0]))))
          clear HT HF HN HT2 ho hk0
          go_wp2_with (go_at_call 16; refine (HV.out).mono ?_; rintro e w1 ⟨rfl, hb1⟩; have d0 := HC0.out _ hb1)
          exact ⟨⟨k + 1, by omega, by go_num, HR, bel2 hb1 hbel⟩, by simp [intOf]; omega⟩
    · obtain rfl : k = ss.length := by omega
      have HR := hide (HE.out.trans (firstE_none HZ.out))
      go_wp2
      go_ret
      exact ⟨ret_int HR.out.symm, hbel⟩
end
section
open Go.ChangeShapes Go.WideShapes Go.ChangeAt Go.RowKit
set_option maxRecDepth 100000 in
theorem Step.st_of {H : Type} {enc : TypeId × Value → H} {W : World} {v : Value} {r : Reach} {b0 : Nat} {d : DataW H} {p : List MemPlace} {held : Bool} (hv : Value.okWide Tryz.prog W r b0 27 v)
    (h : DataW.Trod enc Tryz.prog W 0 (fun _ => true) held 27 v d p) : ∃ (s : Stp) (a : Adr), v = s.agg a ∧ s.At W a ∧ s.raw := by
  obtain ⟨cs, rfl, hsz⟩ := okWide_struct Tryz.underlying27 hv
  obtain ⟨l⟩ := cs
  obtain ⟨fuel, hf⟩ := h
  obtain ⟨s, a, hn, h1, h2⟩ := Step.st_of_cells (cs := l) (hsz.trans Step.cSt) hf
  subst hn
  exact ⟨s, a, rfl, h1, h2⟩
end
section
open Go.ChangeShapes Go.WideShapes Go.ChangeAt Go.RowKit
theorem trodAll_five5 {H : Type} {enc : TypeId × Value → H} {P : Program} {w : World} {base : Nat} {spare : Nat → Bool} {held : Bool} {t t' t'' t3 t4 : TypeId} {args : Array Value} {ds : List (DataW H)} {ps : List MemPlace} (h : DataW.TrodAll enc P w base spare held [t, t', t'', t3, t4] args.toList ds ps) :
    ∃ v v' v'' v3 v4 d d' d'' d3 d4 p p' p'' p3 p4, args = #[v, v', v'', v3, v4] ∧ ds = [d, d', d'', d3, d4] ∧ ps = p ++ p' ++ p'' ++ p3 ++ p4 ∧ DataW.Trod enc P w base spare held t v d p ∧ DataW.Trod enc P w base spare held t' v' d' p' ∧ DataW.Trod enc P w base spare held t'' v'' d'' p'' ∧ DataW.Trod enc P w base spare held t3 v3 d3 p3 ∧ DataW.Trod enc P w base spare held t4 v4 d4 p4 := by
  obtain ⟨v, vs, d, ds', p, q, hargs, rfl, rfl, hd, hrest⟩ := trodAll_cons h
  obtain ⟨v', vs', d', ds'', p', q', rfl, rfl, rfl, hd', hrest'⟩ := trodAll_cons hrest
  obtain ⟨v'', vs'', d'', ds''', p'', q'', rfl, rfl, rfl, hd'', hrest''⟩ := trodAll_cons hrest'
  obtain ⟨v3, vs3, d3, ds3, p3, q3, rfl, rfl, rfl, hd3, hrest3⟩ := trodAll_cons hrest''
  obtain ⟨v4, vs4, d4, ds4, p4, q4, rfl, rfl, rfl, hd4, hrest4⟩ := trodAll_cons hrest3
  obtain ⟨rfl, rfl, rfl⟩ := trodAll_nil hrest4
  exact ⟨v, v', v'', v3, v4, d, d', d'', d3, d4, p, p', p'', p3, p4, by cases args; simp_all, rfl, by simp, hd, hd', hd'', hd3, hd4⟩
theorem trodAll_mk55 {H : Type} {enc : TypeId × Value → H} {P : Program} {w : World} {base : Nat} {spare : Nat → Bool} {held : Bool} {t t' t'' t3 t4 : TypeId} {v v' v'' v3 v4 : Value} {d d' d'' d3 d4 : DataW H} {p p' p'' p3 p4 : List MemPlace} (h : DataW.Trod enc P w base spare held t v d p) (h' : DataW.Trod enc P w base spare held t' v' d' p')
    (h'' : DataW.Trod enc P w base spare held t'' v'' d'' p'') (h3 : DataW.Trod enc P w base spare held t3 v3 d3 p3) (h4 : DataW.Trod enc P w base spare held t4 v4 d4 p4) : DataW.TrodAll enc P w base spare held [t, t', t'', t3, t4] [v, v', v'', v3, v4] [d, d', d'', d3, d4] (p ++ (p' ++ (p'' ++ (p3 ++ p4)))) := ⟨p, p' ++ (p'' ++ (p3 ++ p4)), h, trodAll_mk4 h' h'' h3 h4, rfl⟩
end
end Go.Proofs.YtmbeeefkpgfgmaaGreatDoor
