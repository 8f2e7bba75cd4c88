/- Contracts: the texts of an operand at a place, of a constant (expr, ref8). -/
import Derived.Test.YtlfedcbihbigoaaGreatDoorBaseVX
import Derived.Test.YtlfedcbihbigoaaGreatDoorPsHI
import Derived.Test.YtlfedcbihbigoaaGreatDoorFmtS
import Derived.Test.YtlfedcbihbigoaaGreatDoorDigP
set_option linter.unusedVariables false
set_option linter.unusedSimpArgs false
namespace Go.Proofs.YtlfedcbihbigoaaGreatDoor
open Go.RowKit
def Pc.cells (p : Pc) : List Value := [str p.text, .int .i64 p.level, .bool p.num]
abbrev Pc.agg (p : Pc) : Value := .agg #[str p.text, .int .i64 p.level, .bool p.num]
abbrev pcCells (l : List Pc) : List Value := l.flatMap Pc.cells
theorem ret_str {a b : Bytes} (h : a = b) : Ending.returned (str a) = .returned (str b) := by rw [h]
set_option maxRecDepth 100000 in
set_option maxHeartbeats 1000000 in
theorem expr_at_any (p : Pc) (l : Int) (w : World) (hp : p.text.length ≤ 1000000) : Calls Tryz.prog 66 #[p.agg, .int .i64 l] w fun e w' => e = .returned (str (p.at' l)) ∧ Below w.heap.size w w' := by
  obtain ⟨tx, lv, nb⟩ := p
  simp only at hp
  by_cases h : lv < l
  · have hd : decide (lv < l) = true := decide_eq_true h
    have HE := hide (show (Pc.mk tx lv nb).at' l = [40] ++ tx ++ [41] from if_pos h)
    go_enter Tryz.func66, Tryz.ntmps66
    go_wp2
    go_ret
    exact ⟨by rw [HE.out]; simp [ba_append], by (repeat (first | exact Below.refl _ _ | assumption | refine Below.drew ?_ | refine below_drewN ?_ _ | refine Below.alloc ?_ (by first | omega | simp <;> omega) _ | refine Below.setCell ?_ (by first | omega | simp <;> omega) _))⟩
  · have hd : decide (lv < l) = false := decide_eq_false h
    have HE := hide (show (Pc.mk tx lv nb).at' l = tx from if_neg h)
    go_enter Tryz.func66, Tryz.ntmps66
    go_wp2
    go_ret
    exact ⟨by rw [HE.out]; rfl, by (repeat (first | exact Below.refl _ _ | assumption | refine Below.drew ?_ | refine below_drewN ?_ _ | refine Below.alloc ?_ (by first | omega | simp <;> omega) _ | refine Below.setCell ?_ (by first | omega | simp <;> omega) _))⟩
set_option maxRecDepth 100000 in
set_option maxHeartbeats 1000000 in
theorem ref8_at_any (p : Pc) (l : Int) (w : World) (hp : p.text.length ≤ 1000000) : Calls Tryz.prog 42 #[p.agg, .int .i64 l] w fun e w' => e = .returned (str (p.at' l)) ∧ Below w.heap.size w w' := by
  obtain ⟨tx, lv, nb⟩ := p
  simp only at hp
  by_cases h : lv < l
  · have hd : decide (lv < l) = true := decide_eq_true h
    have HE := hide (show (Pc.mk tx lv nb).at' l = [40] ++ tx ++ [41] from if_pos h)
    go_enter Tryz.func42, Tryz.ntmps42
    go_wp2
    go_ret
    exact ⟨by rw [HE.out]; simp [ba_append], by (repeat (first | exact Below.refl _ _ | assumption | refine Below.drew ?_ | refine below_drewN ?_ _ | refine Below.alloc ?_ (by first | omega | simp <;> omega) _ | refine Below.setCell ?_ (by first | omega | simp <;> omega) _))⟩
  · have hd : decide (lv < l) = false := decide_eq_false h
    have HE := hide (show (Pc.mk tx lv nb).at' l = tx from if_neg h)
    go_enter Tryz.func42, Tryz.ntmps42
    go_wp2
    go_ret
    exact ⟨by rw [HE.out]; rfl, by (repeat (first | exact Below.refl _ _ | assumption | refine Below.drew ?_ | refine below_drewN ?_ _ | refine Below.alloc ?_ (by first | omega | simp <;> omega) _ | refine Below.setCell ?_ (by first | omega | simp <;> omega) _))⟩
theorem cells3 {W : World} {B : Nat} {a b c : Value} {t : TypeId} (h : W.heap[B]? = some (.cells #[a, b, c] t (0, 0))) :
    W.cell? ⟨B, 0, none⟩ = some a ∧ W.cell? ⟨B, 1, none⟩ = some b ∧ W.cell? ⟨B, 2, none⟩ = some c := by
  simp [World.cell?, h]
theorem set3 {W : World} {N : Nat} {x y z : Value} {T : TypeId} (h : W.heap[N]? = some (.cells #[x, y, z] T (0, 0))) :
    (∀ a, (W.setCell ⟨N, 0, none⟩ a).cell? ⟨N, 0, none⟩ = some a) ∧ (∀ a b, ((W.setCell ⟨N, 0, none⟩ a).setCell ⟨N, 1, none⟩ b).cell? ⟨N, 1, none⟩ = some b) ∧
    (∀ a b c, (((W.setCell ⟨N, 0, none⟩ a).setCell ⟨N, 1, none⟩ b).setCell ⟨N, 2, none⟩ c).cell? ⟨N, 2, none⟩ = some c) := by
  refine ⟨fun a => ?_, fun a b => ?_, fun a b c => ?_⟩
  · have h0 := heap_setCell_same W N 0 _ _ a h
    simp [World.cell?, h0]
  · have h0 := heap_setCell_same W N 0 _ _ a h
    have h1 := heap_setCell_same _ N 1 _ _ b h0
    simp [World.cell?, h1]
  · have h0 := heap_setCell_same W N 0 _ _ a h
    have h1 := heap_setCell_same _ N 1 _ _ b h0
    have h2 := heap_setCell_same _ N 2 _ _ c h1
    simp [World.cell?, h2]
/-- The block of the result, behind a call. -/
theorem res_block {w w1 : World} {o1 o2 : Obj} (hb : Below ((w.alloc o1).alloc o2).heap.size ((w.alloc o1).alloc o2) w1) : w1.heap[w.heap.size + 1]? = some o2 :=
  (hb.block _ (by simp)).trans (two_under w o1 o2).2
theorem itoa_full (n : Int) (w : World) (hG : GlobJ w) (h0 : -1073741824 ≤ n) (h1 : n ≤ 1073741824) :
    Calls Tryz.prog 98 #[.int .i64 n] w fun e w' => e = .returned (str (if n < 0 then [45] ++ Lib.decDigits (-n).toNat else Lib.decDigits n.toNat)) ∧ Below w.heap.size w w' := by
  refine (Tryz.strconv_Itoa n (by omega) (by omega) w hG.tab).mono fun e w' ⟨he, hb⟩ => ⟨?_, ?_⟩
  · rw [he]
    unfold Lib.itoa
    have : n.natAbs = (-n).toNat ∨ ¬ n < 0 := by omega
    split
    · rename_i hn
      rw [show n.natAbs = (-n).toNat by omega]; rfl
    · rfl
  · obtain ⟨k, os, rfl⟩ := hb
    exact grow_below w k os
set_option maxRecDepth 100000 in
set_option maxHeartbeats 2000000 in
theorem expr_literal_any (v : Vl) (w : World) (hG : GlobJ w) (hv : validV v.kind v.num v.text = true) : Calls Tryz.prog 67 #[v.agg] w fun e w' => e = .returned (litP v).agg ∧ Below w.heap.size w w' := by
  obtain ⟨k, n, x⟩ := v
  simp only at hv
  have HG := hide hG
  clear hG
  rcases validV_cases hv with ⟨rfl, rfl, rfl⟩ | ⟨rfl, hn, rfl⟩ | ⟨rfl, h1, h2, rfl⟩ | ⟨rfl, rfl, hx⟩ | ⟨rfl, h1, h2, rfl⟩
  · clear hv
    go_enter Tryz.func67, Tryz.ntmps67
    go_wp2
    refine bodyPost_ex rfl ?_
    apply Exists.intro
    apply And.intro
    · simp [results, Tryz.results67, go_sem]; rfl
    · exact ⟨rfl, by (repeat (first | exact Below.refl _ _ | assumption | refine Below.drew ?_ | refine below_drewN ?_ _ | refine Below.alloc ?_ (by first | omega | simp <;> omega) _ | refine Below.setCell ?_ (by first | omega | simp <;> omega) _))⟩
  · clear hv
    have HF := hide (fun b W => Tryz.strconv_FormatBool b W)
    rcases hn with rfl | rfl
    all_goals
      go_enter Tryz.func67, Tryz.ntmps67
      go_wp2_with (go_at_call 97; refine (HF.out _ _).mono ?_; rintro e w1 ⟨rfl, rfl⟩)
      refine bodyPost_ex rfl ?_
      apply Exists.intro
      apply And.intro
      · simp [results, Tryz.results67, go_sem]; rfl
      · exact ⟨rfl, by (repeat (first | exact Below.refl _ _ | assumption | refine Below.drew ?_ | refine below_drewN ?_ _ | refine Below.alloc ?_ (by first | omega | simp <;> omega) _ | refine Below.setCell ?_ (by first | omega | simp <;> omega) _))⟩
  · clear hv
    have HI := hide (fun W (hb : Below w.heap.size w W) => itoa_full n W (HG.out.below hb) h1 h2)
    by_cases hn : n < 0
    · have HE := hide (show litP ⟨2, n, []⟩ = ⟨[45] ++ Lib.decDigits (-n).toNat, 7, true⟩ from by unfold litP; simp [hn])
      rw [if_pos hn] at HI
      have hd : decide (n < 0) = true := decide_eq_true hn
      generalize [45] ++ Lib.decDigits (-n).toNat = dd at *
      go_enter Tryz.func67, Tryz.ntmps67
      go_wp2_with (go_at_call 98; refine (HI.out _ (by (repeat (first | exact Below.refl _ _ | assumption | refine Below.drew ?_ | refine below_drewN ?_ _ | refine Below.alloc ?_ (by first | omega | simp <;> omega) _ | refine Below.setCell ?_ (by first | omega | simp <;> omega) _)))).mono ?_; rintro e w1 ⟨rfl, hb1⟩; have hR1 := res_block hb1; obtain ⟨r0, r1, r2⟩ := cells3 hR1; have rf := free6 hR1; have hz1 := lt_of_heap hR1; obtain ⟨z0, z1, z2⟩ := set3 hR1; have hbW : Below w.heap.size w w1 := bel2 hb1 (by (repeat (first | exact Below.refl _ _ | assumption | refine Below.drew ?_ | refine below_drewN ?_ _ | refine Below.alloc ?_ (by first | omega | simp <;> omega) _ | refine Below.setCell ?_ (by first | omega | simp <;> omega) _))))
      refine bodyPost_ex rfl ?_
      apply Exists.intro
      apply And.intro
      · simp [results, Tryz.results67, go_sem, z0, z1, z2]; rfl
      · exact ⟨by rw [HE.out], by (repeat (first | exact Below.refl _ _ | assumption | refine Below.drew ?_ | refine below_drewN ?_ _ | refine Below.alloc ?_ (by first | omega | simp <;> omega) _ | refine Below.setCell ?_ (by first | omega | simp <;> omega) _))⟩
    · have HE := hide (show litP ⟨2, n, []⟩ = ⟨Lib.decDigits n.toNat, 8, true⟩ from by unfold litP; simp [hn])
      rw [if_neg hn] at HI
      have hd : decide (n < 0) = false := decide_eq_false hn
      generalize Lib.decDigits n.toNat = dd at *
      go_enter Tryz.func67, Tryz.ntmps67
      go_wp2_with (go_at_call 98; refine (HI.out _ (by (repeat (first | exact Below.refl _ _ | assumption | refine Below.drew ?_ | refine below_drewN ?_ _ | refine Below.alloc ?_ (by first | omega | simp <;> omega) _ | refine Below.setCell ?_ (by first | omega | simp <;> omega) _)))).mono ?_; rintro e w1 ⟨rfl, hb1⟩; have hR1 := res_block hb1; obtain ⟨r0, r1, r2⟩ := cells3 hR1; have rf := free6 hR1; have hz1 := lt_of_heap hR1; obtain ⟨z0, z1, z2⟩ := set3 hR1; have hbW : Below w.heap.size w w1 := bel2 hb1 (by (repeat (first | exact Below.refl _ _ | assumption | refine Below.drew ?_ | refine below_drewN ?_ _ | refine Below.alloc ?_ (by first | omega | simp <;> omega) _ | refine Below.setCell ?_ (by first | omega | simp <;> omega) _))))
      refine bodyPost_ex rfl ?_
      apply Exists.intro
      apply And.intro
      · simp [results, Tryz.results67, go_sem, z0, z1, z2]; rfl
      · exact ⟨by rw [HE.out], by (repeat (first | exact Below.refl _ _ | assumption | refine Below.drew ?_ | refine below_drewN ?_ _ | refine Below.alloc ?_ (by first | omega | simp <;> omega) _ | refine Below.setCell ?_ (by first | omega | simp <;> omega) _))⟩
  · clear hv
    have HR := hide (fun W (hb : Below w.heap.size w W) => replaceAll_any ⟨x.toArray⟩ W (HG.out.below hb) (by show x.toArray.size ≤ _; simp; omega))
    have hq := quote_len x
    have hbs : bs ⟨x.toArray⟩ = x := rfl
    rw [hbs] at HR
    have HE := hide (show litP ⟨3, 0, x⟩ = ⟨39 :: (x.flatMap qByte ++ [39]), 8, false⟩ from rfl)
    generalize x.flatMap qByte = q at *
    clear hbs
    go_enter Tryz.func67, Tryz.ntmps67
    go_wp2_with (go_at_call 99; refine (HR.out _ (by (repeat (first | exact Below.refl _ _ | assumption | refine Below.drew ?_ | refine below_drewN ?_ _ | refine Below.alloc ?_ (by first | omega | simp <;> omega) _ | refine Below.setCell ?_ (by first | omega | simp <;> omega) _)))).mono ?_; rintro e w1 ⟨rfl, hb1⟩; have hR1 := res_block hb1; obtain ⟨r0, r1, r2⟩ := cells3 hR1; have rf := free6 hR1; have hz1 := lt_of_heap hR1; obtain ⟨z0, z1, z2⟩ := set3 hR1; have hbW : Below w.heap.size w w1 := bel2 hb1 (by (repeat (first | exact Below.refl _ _ | assumption | refine Below.drew ?_ | refine below_drewN ?_ _ | refine Below.alloc ?_ (by first | omega | simp <;> omega) _ | refine Below.setCell ?_ (by first | omega | simp <;> omega) _))))
    refine bodyPost_ex rfl ?_
    apply Exists.intro
    apply And.intro
    · simp [results, Tryz.results67, go_sem, z0, z1, z2]; rfl
    · exact ⟨by rw [HE.out]; simp [ba_append, Pc.agg], by (repeat (first | exact Below.refl _ _ | assumption | refine Below.drew ?_ | refine below_drewN ?_ _ | refine Below.alloc ?_ (by first | omega | simp <;> omega) _ | refine Below.setCell ?_ (by first | omega | simp <;> omega) _))⟩
  · clear hv
    have HC := hide (fun W (hb : Below w.heap.size w W) => civil_Format_any n W (HG.out.below hb).glob.lens h1 h2)
    have hq := fmtS_len h1 h2
    have HE := hide (show litP ⟨4, n, []⟩ = ⟨64 :: fmtS n, 8, false⟩ from rfl)
    generalize fmtS n = q at *
    go_enter Tryz.func67, Tryz.ntmps67
    go_wp2_with (go_at_call 100; refine (HC.out _ (by (repeat (first | exact Below.refl _ _ | assumption | refine Below.drew ?_ | refine below_drewN ?_ _ | refine Below.alloc ?_ (by first | omega | simp <;> omega) _ | refine Below.setCell ?_ (by first | omega | simp <;> omega) _)))).mono ?_; rintro e w1 ⟨rfl, hb1⟩; have hR1 := res_block hb1; obtain ⟨r0, r1, r2⟩ := cells3 hR1; have rf := free6 hR1; have hz1 := lt_of_heap hR1; obtain ⟨z0, z1, z2⟩ := set3 hR1; have hbW : Below w.heap.size w w1 := bel2 hb1 (by (repeat (first | exact Below.refl _ _ | assumption | refine Below.drew ?_ | refine below_drewN ?_ _ | refine Below.alloc ?_ (by first | omega | simp <;> omega) _ | refine Below.setCell ?_ (by first | omega | simp <;> omega) _))))
    refine bodyPost_ex rfl ?_
    apply Exists.intro
    apply And.intro
    · simp [results, Tryz.results67, go_sem, z0, z1, z2]; rfl
    · exact ⟨by rw [HE.out]; simp [ba_append, Pc.agg], by (repeat (first | exact Below.refl _ _ | assumption | refine Below.drew ?_ | refine below_drewN ?_ _ | refine Below.alloc ?_ (by first | omega | simp <;> omega) _ | refine Below.setCell ?_ (by first | omega | simp <;> omega) _))⟩
set_option maxRecDepth 100000 in
set_option maxHeartbeats 2000000 in
theorem ref8_literal_any (v : Vl) (w : World) (hv : validV v.kind v.num v.text = true) : Calls Tryz.prog 41 #[v.agg] w fun e w' => e = .returned (litP v).agg ∧ Below w.heap.size w w' := by
  obtain ⟨k, n, x⟩ := v
  simp only at hv
  rcases validV_cases hv with ⟨rfl, rfl, rfl⟩ | ⟨rfl, hn, rfl⟩ | ⟨rfl, h1, h2, rfl⟩ | ⟨rfl, rfl, hx⟩ | ⟨rfl, h1, h2, rfl⟩
  · clear hv
    go_enter Tryz.func41, Tryz.ntmps41
    go_wp2
    refine bodyPost_ex rfl ?_
    apply Exists.intro
    apply And.intro
    · simp [results, Tryz.results41, go_sem]; rfl
    · exact ⟨rfl, by (repeat (first | exact Below.refl _ _ | assumption | refine Below.drew ?_ | refine below_drewN ?_ _ | refine Below.alloc ?_ (by first | omega | simp <;> omega) _ | refine Below.setCell ?_ (by first | omega | simp <;> omega) _))⟩
  · clear hv
    rcases hn with rfl | rfl
    all_goals
      go_enter Tryz.func41, Tryz.ntmps41
      go_wp2
      refine bodyPost_ex rfl ?_
      apply Exists.intro
      apply And.intro
      · simp [results, Tryz.results41, go_sem]; rfl
      · exact ⟨rfl, by (repeat (first | exact Below.refl _ _ | assumption | refine Below.drew ?_ | refine below_drewN ?_ _ | refine Below.alloc ?_ (by first | omega | simp <;> omega) _ | refine Below.setCell ?_ (by first | omega | simp <;> omega) _))⟩
  · clear hv
    by_cases hn : n < 0
    · have HI := hide (fun W => ref7_Number_any (-n) W (by omega) (by omega))
      have HE := hide (show litP ⟨2, n, []⟩ = ⟨[45] ++ Lib.decDigits (-n).toNat, 7, true⟩ from by unfold litP; simp [hn])
      have hq := decDigits_le (n := (-n).toNat) (by omega)
      have hd : decide (n < 0) = true := decide_eq_true hn
      generalize Lib.decDigits (-n).toNat = dd at *
      have hw : IntKind.i64.wrap (-n) = -n := IntWalk.i64_in _ (by omega)
      go_enter Tryz.func41, Tryz.ntmps41
      go_wp2_with (go_at_call 77; refine (HI.out _).mono ?_; rintro e w1 ⟨rfl, hb1⟩; have hR1 := res_block hb1; obtain ⟨r0, r1, r2⟩ := cells3 hR1; have rf := free6 hR1; have hz1 := lt_of_heap hR1; obtain ⟨z0, z1, z2⟩ := set3 hR1; have hbW : Below w.heap.size w w1 := bel2 hb1 (by (repeat (first | exact Below.refl _ _ | assumption | refine Below.drew ?_ | refine below_drewN ?_ _ | refine Below.alloc ?_ (by first | omega | simp <;> omega) _ | refine Below.setCell ?_ (by first | omega | simp <;> omega) _))))
      refine bodyPost_ex rfl ?_
      apply Exists.intro
      apply And.intro
      · simp [results, Tryz.results41, go_sem, z0, z1, z2]; rfl
      · exact ⟨by rw [HE.out]; simp [ba_append, Pc.agg], by (repeat (first | exact Below.refl _ _ | assumption | refine Below.drew ?_ | refine below_drewN ?_ _ | refine Below.alloc ?_ (by first | omega | simp <;> omega) _ | refine Below.setCell ?_ (by first | omega | simp <;> omega) _))⟩
    · have HI := hide (fun W => ref7_Number_any n W (by omega) h2)
      have HE := hide (show litP ⟨2, n, []⟩ = ⟨Lib.decDigits n.toNat, 8, true⟩ from by unfold litP; simp [hn])
      have hd : decide (n < 0) = false := decide_eq_false hn
      generalize Lib.decDigits n.toNat = dd at *
      go_enter Tryz.func41, Tryz.ntmps41
      go_wp2_with (go_at_call 77; refine (HI.out _).mono ?_; rintro e w1 ⟨rfl, hb1⟩; have hR1 := res_block hb1; obtain ⟨r0, r1, r2⟩ := cells3 hR1; have rf := free6 hR1; have hz1 := lt_of_heap hR1; obtain ⟨z0, z1, z2⟩ := set3 hR1; have hbW : Below w.heap.size w w1 := bel2 hb1 (by (repeat (first | exact Below.refl _ _ | assumption | refine Below.drew ?_ | refine below_drewN ?_ _ | refine Below.alloc ?_ (by first | omega | simp <;> omega) _ | refine Below.setCell ?_ (by first | omega | simp <;> omega) _))))
      refine bodyPost_ex rfl ?_
      apply Exists.intro
      apply And.intro
      · simp [results, Tryz.results41, go_sem, z0, z1, z2]; rfl
      · exact ⟨by rw [HE.out], by (repeat (first | exact Below.refl _ _ | assumption | refine Below.drew ?_ | refine below_drewN ?_ _ | refine Below.alloc ?_ (by first | omega | simp <;> omega) _ | refine Below.setCell ?_ (by first | omega | simp <;> omega) _))⟩
  · clear hv
    have HR := hide (fun W => ref7_Quote_any ⟨x.toArray⟩ W (by show x.toArray.size ≤ _; simp; omega))
    have hbs : bs ⟨x.toArray⟩ = x := rfl
    rw [hbs] at HR
    have HE := hide (show litP ⟨3, 0, x⟩ = ⟨quoteS x, 8, false⟩ from rfl)
    generalize quoteS x = q at *
    clear hbs
    go_enter Tryz.func41, Tryz.ntmps41
    go_wp2_with (go_at_call 78; refine (HR.out _).mono ?_; rintro e w1 ⟨rfl, hb1⟩; have hR1 := res_block hb1; obtain ⟨r0, r1, r2⟩ := cells3 hR1; have rf := free6 hR1; have hz1 := lt_of_heap hR1; obtain ⟨z0, z1, z2⟩ := set3 hR1; have hbW : Below w.heap.size w w1 := bel2 hb1 (by (repeat (first | exact Below.refl _ _ | assumption | refine Below.drew ?_ | refine below_drewN ?_ _ | refine Below.alloc ?_ (by first | omega | simp <;> omega) _ | refine Below.setCell ?_ (by first | omega | simp <;> omega) _))))
    refine bodyPost_ex rfl ?_
    apply Exists.intro
    apply And.intro
    · simp [results, Tryz.results41, go_sem, z0, z1, z2]; rfl
    · exact ⟨by rw [HE.out], by (repeat (first | exact Below.refl _ _ | assumption | refine Below.drew ?_ | refine below_drewN ?_ _ | refine Below.alloc ?_ (by first | omega | simp <;> omega) _ | refine Below.setCell ?_ (by first | omega | simp <;> omega) _))⟩
  · clear hv
    have HC := hide (fun W => ref7_Moment_any n W h1 h2)
    have HE := hide (show litP ⟨4, n, []⟩ = ⟨64 :: fmtS n, 8, false⟩ from rfl)
    generalize 64 :: fmtS n = q at *
    go_enter Tryz.func41, Tryz.ntmps41
    go_wp2_with (go_at_call 79; refine (HC.out _).mono ?_; rintro e w1 ⟨rfl, hb1⟩; have hR1 := res_block hb1; obtain ⟨r0, r1, r2⟩ := cells3 hR1; have rf := free6 hR1; have hz1 := lt_of_heap hR1; obtain ⟨z0, z1, z2⟩ := set3 hR1; have hbW : Below w.heap.size w w1 := bel2 hb1 (by (repeat (first | exact Below.refl _ _ | assumption | refine Below.drew ?_ | refine below_drewN ?_ _ | refine Below.alloc ?_ (by first | omega | simp <;> omega) _ | refine Below.setCell ?_ (by first | omega | simp <;> omega) _))))
    refine bodyPost_ex rfl ?_
    apply Exists.intro
    apply And.intro
    · simp [results, Tryz.results41, go_sem, z0, z1, z2]; rfl
    · exact ⟨by rw [HE.out], by (repeat (first | exact Below.refl _ _ | assumption | refine Below.drew ?_ | refine below_drewN ?_ _ | refine Below.alloc ?_ (by first | omega | simp <;> omega) _ | refine Below.setCell ?_ (by first | omega | simp <;> omega) _))⟩
end Go.Proofs.YtlfedcbihbigoaaGreatDoor
