/- Contracts: expr.Arity, ref8.Arity; the names of columns, references and built-in functions; expr.shaped, ref8.formed. Contracts: expr.shaped. base.At: the numbers that the laws draw from a list. -/
import Derived.Test.YtmbeeefkpgfgmaaGreatDoorPq04
import Derived.BigGuardPart
import Derived.Test.YtmbeeefkpgfgmaaGreatDoorProg
import Derived.Test.YtmbeeefkpgfgmaaGreatDoorPq01
import Derived.WalkLawsBesides
import Derived.Deep.RegionWith
import Derived.Test.YtmbeeefkpgfgmaaGreatDoorPq03
import Derived.Deep.RegionHeld3
set_option linter.unusedVariables false
set_option linter.unusedSimpArgs false
namespace Go.Proofs.YtmbeeefkpgfgmaaGreatDoor
open Go.RowKit Go.WideMaps Go.Maps
abbrev ndV (op k m : Int) (x nm : ByteArray) (a : Int) : Value := .agg #[.int .i64 op, .int .i64 k, .int .i64 m, .string x, .string nm, .int .i64 a]
abbrev ndBox (op k m : Int) (x nm : ByteArray) (a : Int) : Obj := .cells #[.int .i64 op, .int .i64 k, .int .i64 m, .string x, .string nm, .int .i64 a] 116
set_option maxRecDepth 100000 in
set_option maxHeartbeats 4000000 in
theorem expr_Arity_any (op k m a : Int) (x nm : ByteArray) (w : World) : Calls Tryz.prog 92 #[ndV op k m x nm a] w fun e w' => e = .returned (.int .i64 (arityN op a)) ∧ Below w.heap.size w w' := by
  go_enter Tryz.func92, Tryz.ntmps92
  go_wp2
  all_goals
    go_ret
    refine ⟨ret_int ?_, by (repeat (first | exact Below.refl _ _ | assumption | refine Below.drew ?_ | refine below_drewN ?_ _ | refine Below.alloc ?_ (by first | omega | simp <;> omega) _ | refine Below.setCell ?_ (by first | omega | simp <;> omega) _))⟩
    simp_all [arityN] <;> omega
set_option maxRecDepth 100000 in
set_option maxHeartbeats 4000000 in
theorem ref8_Arity_any (op k m a : Int) (x nm : ByteArray) (w : World) : Calls Tryz.prog 101 #[ndV op k m x nm a] w fun e w' => e = .returned (.int .i64 (arityN op a)) ∧ Below w.heap.size w w' := by
  go_enter Tryz.func101, Tryz.ntmps101
  go_wp2
  all_goals
    go_ret
    refine ⟨ret_int ?_, by (repeat (first | exact Below.refl _ _ | assumption | refine Below.drew ?_ | refine below_drewN ?_ _ | refine Below.alloc ?_ (by first | omega | simp <;> omega) _ | refine Below.setCell ?_ (by first | omega | simp <;> omega) _))⟩
    simp_all [arityN] <;> omega
theorem below_go {B : Nat} {W0 W W1 : World} (h : Below B W0 W) (hB : B ≤ W0.heap.size) (h1 : Below W.heap.size W W1) : Below B W0 W1 := h.trans (h1.mono (Nat.le_trans hB h.size))
theorem box6 {w w1 : World} {a b c d e f : Value} {t : TypeId} (h : Below (w.heap.size + 1) (w.alloc (.cells #[a, b, c, d, e, f] t)) w1) :
    w1.cell? ⟨w.heap.size, 0, none⟩ = some a ∧ w1.cell? ⟨w.heap.size, 1, none⟩ = some b ∧ w1.cell? ⟨w.heap.size, 2, none⟩ = some c ∧ w1.cell? ⟨w.heap.size, 3, none⟩ = some d ∧ w1.cell? ⟨w.heap.size, 4, none⟩ = some e ∧ w1.cell? ⟨w.heap.size, 5, none⟩ = some f ∧ w.heap.size < w1.heap.size := by
  have hheap := heap_of_below h (Nat.lt_succ_self _)
  exact ⟨cell_of_heap hheap 0, cell_of_heap hheap 1, cell_of_heap hheap 2, cell_of_heap hheap 3, cell_of_heap hheap 4, cell_of_heap hheap 5, lt_of_heap hheap⟩
theorem box_below {w w1 : World} {o : Obj} (h : Below (w.heap.size + 1) (w.alloc o) w1) : Below w.heap.size w w1 := ((Below.refl _ _).alloc (Nat.le_refl _) _).trans (h.mono (Nat.le_succ _))
theorem ref8_IsColumn_any (s : ByteArray) (w : World) : Calls Tryz.prog 104 #[.string s] w fun e w' => e = .returned (.bool (isNameB 24 (bs s) && !resB (bs s))) ∧ Below w.heap.size w w' := by
  have H1 := hide (fun W => ref5_IsName_any s W)
  have H2 := hide (fun W => ref7_Reserved_any s W)
  generalize isNameB 24 (bs s) = p at *
  generalize resB (bs s) = q at *
  go_enter Tryz.func104, Tryz.ntmps104
  cases p <;> cases q
  all_goals
    go_wp2_with (first
      | (go_at_call 162; refine (H1.out _).mono ?_; rintro e w' ⟨rfl, rfl⟩)
      | (go_at_call 99; refine (H2.out _).mono ?_; rintro e w1 ⟨rfl, hb1⟩))
    go_ret
    exact ⟨rfl, by first | assumption | (repeat (first | exact Below.refl _ _ | assumption | refine Below.drew ?_ | refine below_drewN ?_ _ | refine Below.alloc ?_ (by first | omega | simp <;> omega) _ | refine Below.setCell ?_ (by first | omega | simp <;> omega) _))⟩
theorem ref8_IsReference_any (s : ByteArray) (w : World) (hs : s.size ≤ maxLen) : Calls Tryz.prog 60 #[.string s] w fun e w' => e = .returned (.bool (isQualB 24 (bs s) && !resB (bs s))) ∧ Below w.heap.size w w' := by
  have H1 := hide (fun W => ref5_IsQualified_any s W hs)
  have H2 := hide (fun W => ref7_Reserved_any s W)
  generalize isQualB 24 (bs s) = p at *
  generalize resB (bs s) = q at *
  go_enter Tryz.func60, Tryz.ntmps60
  cases p <;> cases q
  all_goals
    go_wp2_with (first
      | (go_at_call 98; refine (H1.out _).mono ?_; rintro e w' ⟨rfl, rfl⟩)
      | (go_at_call 99; refine (H2.out _).mono ?_; rintro e w1 ⟨rfl, hb1⟩))
    go_ret
    exact ⟨rfl, by first | assumption | (repeat (first | exact Below.refl _ _ | assumption | refine Below.drew ?_ | refine below_drewN ?_ _ | refine Below.alloc ?_ (by first | omega | simp <;> omega) _ | refine Below.setCell ?_ (by first | omega | simp <;> omega) _))⟩
theorem ref8_IsBuiltin_any (s : ByteArray) (w : World) : Calls Tryz.prog 164 #[.string s] w fun e w' => e = .returned (.bool (biB (bs s))) ∧ Below w.heap.size w w' := by
  go_enter Tryz.func164, Tryz.ntmps164
  go_wp2_with fail
  refine (ref5_Has_any _ builtinS 5 s _ (.inr ⟨w.heap.size, 0, rfl, by simp, fun i hi => ?_⟩) (by decide)).mono ?_
  · have hi' : i < 5 := hi
    rw [cell_of_heap (heap_alloc_new w _)]
    match i, hi' with
    | 0, _ => rfl
    | 1, _ => rfl
    | 2, _ => rfl
    | 3, _ => rfl
    | 4, _ => rfl
  rintro e w' ⟨rfl, rfl⟩
  have HE := hide (show hasB builtinS (bs s) = biB (bs s) from rfl)
  go_wp2
  go_ret
  exact ⟨ret_bool (by rw [← HE.out]), by (repeat (first | exact Below.refl _ _ | assumption | refine Below.drew ?_ | refine below_drewN ?_ _ | refine Below.alloc ?_ (by first | omega | simp <;> omega) _ | refine Below.setCell ?_ (by first | omega | simp <;> omega) _))⟩
theorem shapedN_0 (k m a : Int) (x nm : Bytes) : shapedN 0 k m x nm a = (validV k m x && nm.isEmpty && (a == 0)) := rfl
theorem shapedN_1 (k m a : Int) (x nm : Bytes) : shapedN 1 k m x nm a = (zeroV k m x && ((a == 0) && isNameB 24 nm && !resB nm)) := rfl
theorem shapedN_20 (k m a : Int) (x nm : Bytes) : shapedN 20 k m x nm a = (zeroV k m x && ((a == 0) && isQualB 24 nm && !resB nm)) := rfl
theorem shapedN_21 (k m a : Int) (x nm : Bytes) : shapedN 21 k m x nm a = (zeroV k m x && (isQualB 24 nm && !biB nm && !resB nm && decide (0 ≤ a) && decide (a ≤ 8))) := rfl
theorem shapedN_other {op : Int} (h0 : op ≠ 0) (h1 : op ≠ 1) (h20 : op ≠ 20) (h21 : op ≠ 21) (k m a : Int) (x nm : Bytes) : shapedN op k m x nm a = (zeroV k m x && ((a == 0) && nm.isEmpty && decide (0 ≤ arityN op a))) := by
  unfold shapedN
  rw [if_neg h0, if_neg h1, if_neg h20, if_neg h21]
theorem zero_or (a : Int) : a = 0 ∨ (a == 0) = false := by
  by_cases h : a = 0
  · exact .inl h
  · exact .inr (by simpa using h)
theorem zero_cases (k m : Int) (x : ByteArray) : (k = 0 ∧ m = 0 ∧ x = ⟨#[]⟩ ∧ zeroV k m (bs x) = true) ∨ ((k == 0) = false ∧ zeroV k m (bs x) = false) ∨ (k = 0 ∧ (m == 0) = false ∧ zeroV k m (bs x) = false) ∨
    (k = 0 ∧ m = 0 ∧ (x.toList == []) = false ∧ x.toList.isEmpty = false ∧ zeroV k m (bs x) = false) := by
  have hb := bs_toList x
  by_cases hk : k = 0
  · by_cases hm : m = 0
    · by_cases hx : x = ⟨#[]⟩
      · left; subst hk hm hx; exact ⟨rfl, rfl, rfl, rfl⟩
      · right; right; right
        have h1 : bs x ≠ [] := fun e => hx (by rw [← mk_bs x, e])
        subst hk hm
        refine ⟨rfl, rfl, by rw [← hb]; simpa using h1, by rw [← hb]; cases h : bs x <;> simp_all, ?_⟩
        unfold zeroV; cases h : bs x <;> simp_all
    · right; right; left
      subst hk
      exact ⟨rfl, by simpa using hm, by unfold zeroV; simp [hm]⟩
  · right; left
    exact ⟨by simpa using hk, by unfold zeroV; simp [hk]⟩
set_option maxRecDepth 100000 in
set_option maxHeartbeats 2000000 in
theorem ref8_formed_0 (k m a : Int) (x nm : ByteArray) (w : World) : Calls Tryz.prog 100 #[ndV 0 k m x nm a] w fun e w' => e = .returned (.bool (shapedN 0 k m (bs x) (bs nm) a)) ∧ Below w.heap.size w w' := by
  have H1 := hide (fun W => ref1_Valid_any k m x W)
  have hcur := Below.refl (w.heap.size + 1) (w.alloc (ndBox 0 k m x nm a))
  have HE := hide (shapedN_0 k m a (bs x) (bs nm))
  have HZ := zero_cases k m x
  have HY := hide (bs_toList nm)
  generalize validV k m (bs x) = v at *
  generalize shapedN 0 k m (bs x) (bs nm) a = r at *
  rcases HZ with ⟨rfl, rfl, rfl, z⟩ | ⟨z1, z⟩ | ⟨rfl, z1, z⟩ | ⟨rfl, rfl, z1, z2, z⟩ <;> (try rw [z] at HE) <;> clear z
  all_goals rcases zero_or a with rfl | za
  all_goals
    go_enter Tryz.func100, Tryz.ntmps100
    go_wp2_with (first
      | (go_at_call 163; refine (H1.out _).mono ?_; rintro e w1 ⟨rfl, hb1⟩; have hcur := below_go hcur (by simp) hb1; obtain ⟨k0, k1, k2, k3, k4, k5, k6⟩ := box6 hcur; clear hb1))
    all_goals
      go_ret
      refine ⟨ret_bool ?_, by first | exact box_below hcur | (repeat (first | exact Below.refl _ _ | assumption | refine Below.drew ?_ | refine below_drewN ?_ _ | refine Below.alloc ?_ (by first | omega | simp <;> omega) _ | refine Below.setCell ?_ (by first | omega | simp <;> omega) _))⟩
      have he := HE.out
      have hy := HY.out
      clear HE HY H1
      simp_all
set_option maxRecDepth 100000 in
set_option maxHeartbeats 2000000 in
theorem ref8_formed_1 (k m a : Int) (x nm : ByteArray) (w : World) : Calls Tryz.prog 100 #[ndV 1 k m x nm a] w fun e w' => e = .returned (.bool (shapedN 1 k m (bs x) (bs nm) a)) ∧ Below w.heap.size w w' := by
  have H1 := hide (fun W => ref8_IsColumn_any nm W)
  have hcur := Below.refl (w.heap.size + 1) (w.alloc (ndBox 1 k m x nm a))
  have HE := hide (shapedN_1 k m a (bs x) (bs nm))
  have HZ := zero_cases k m x
  have HY := hide (bs_toList nm)
  generalize isNameB 24 (bs nm) = p at *
  generalize resB (bs nm) = q at *
  generalize shapedN 1 k m (bs x) (bs nm) a = r at *
  rcases HZ with ⟨rfl, rfl, rfl, z⟩ | ⟨z1, z⟩ | ⟨rfl, z1, z⟩ | ⟨rfl, rfl, z1, z2, z⟩ <;> (try rw [z] at HE) <;> clear z
  all_goals rcases zero_or a with rfl | za
  all_goals
    go_enter Tryz.func100, Tryz.ntmps100
    go_wp2_with (first
      | (go_at_call 104; refine (H1.out _).mono ?_; rintro e w1 ⟨rfl, hb1⟩; have hcur := below_go hcur (by simp) hb1; obtain ⟨k0, k1, k2, k3, k4, k5, k6⟩ := box6 hcur; clear hb1))
    all_goals
      go_ret
      refine ⟨ret_bool ?_, by first | exact box_below hcur | (repeat (first | exact Below.refl _ _ | assumption | refine Below.drew ?_ | refine below_drewN ?_ _ | refine Below.alloc ?_ (by first | omega | simp <;> omega) _ | refine Below.setCell ?_ (by first | omega | simp <;> omega) _))⟩
      have he := HE.out
      have hy := HY.out
      clear HE HY H1
      simp_all
set_option maxRecDepth 100000 in
set_option maxHeartbeats 2000000 in
theorem ref8_formed_20 (k m a : Int) (x nm : ByteArray) (w : World) (hn : nm.size ≤ maxLen) : Calls Tryz.prog 100 #[ndV 20 k m x nm a] w fun e w' => e = .returned (.bool (shapedN 20 k m (bs x) (bs nm) a)) ∧ Below w.heap.size w w' := by
  have H1 := hide (fun W => ref8_IsReference_any nm W hn)
  have hcur := Below.refl (w.heap.size + 1) (w.alloc (ndBox 20 k m x nm a))
  clear hn
  have HE := hide (shapedN_20 k m a (bs x) (bs nm))
  have HZ := zero_cases k m x
  have HY := hide (bs_toList nm)
  generalize isQualB 24 (bs nm) = p at *
  generalize resB (bs nm) = q at *
  generalize shapedN 20 k m (bs x) (bs nm) a = r at *
  rcases HZ with ⟨rfl, rfl, rfl, z⟩ | ⟨z1, z⟩ | ⟨rfl, z1, z⟩ | ⟨rfl, rfl, z1, z2, z⟩ <;> (try rw [z] at HE) <;> clear z
  all_goals rcases zero_or a with rfl | za
  all_goals
    go_enter Tryz.func100, Tryz.ntmps100
    go_wp2_with (first
      | (go_at_call 60; refine (H1.out _).mono ?_; rintro e w1 ⟨rfl, hb1⟩; have hcur := below_go hcur (by simp) hb1; obtain ⟨k0, k1, k2, k3, k4, k5, k6⟩ := box6 hcur; clear hb1))
    all_goals
      go_ret
      refine ⟨ret_bool ?_, by first | exact box_below hcur | (repeat (first | exact Below.refl _ _ | assumption | refine Below.drew ?_ | refine below_drewN ?_ _ | refine Below.alloc ?_ (by first | omega | simp <;> omega) _ | refine Below.setCell ?_ (by first | omega | simp <;> omega) _))⟩
      have he := HE.out
      have hy := HY.out
      clear HE HY H1
      simp_all
set_option maxRecDepth 100000 in
set_option maxHeartbeats 2000000 in
theorem ref8_formed_21 (k m a : Int) (x nm : ByteArray) (w : World) (hn : nm.size ≤ maxLen) : Calls Tryz.prog 100 #[ndV 21 k m x nm a] w fun e w' => e = .returned (.bool (shapedN 21 k m (bs x) (bs nm) a)) ∧ Below w.heap.size w w' := by
  have H1 := hide (fun W => ref8_IsReference_any nm W hn)
  have H2 := hide (fun W => ref8_IsBuiltin_any nm W)
  have hcur := Below.refl (w.heap.size + 1) (w.alloc (ndBox 21 k m x nm a))
  clear hn
  have HE := hide (shapedN_21 k m a (bs x) (bs nm))
  have HZ := zero_cases k m x
  have HY := hide (bs_toList nm)
  generalize isQualB 24 (bs nm) = p at *
  generalize resB (bs nm) = q at *
  generalize biB (bs nm) = b at *
  generalize shapedN 21 k m (bs x) (bs nm) a = r at *
  rcases HZ with ⟨rfl, rfl, rfl, z⟩ | ⟨z1, z⟩ | ⟨rfl, z1, z⟩ | ⟨rfl, rfl, z1, z2, z⟩ <;> (try rw [z] at HE) <;> clear z
  all_goals rcases zero_or a with rfl | za
  all_goals
    go_enter Tryz.func100, Tryz.ntmps100
    go_wp2_with (first
      | (go_at_call 60; refine (H1.out _).mono ?_; rintro e w1 ⟨rfl, hb1⟩; have hcur := below_go hcur (by simp) hb1; obtain ⟨k0, k1, k2, k3, k4, k5, k6⟩ := box6 hcur; clear hb1)
      | (go_at_call 164; refine (H2.out _).mono ?_; rintro e w1 ⟨rfl, hb1⟩; have hcur := below_go hcur (by simp) hb1; obtain ⟨k0, k1, k2, k3, k4, k5, k6⟩ := box6 hcur; clear hb1))
    all_goals
      go_ret
      refine ⟨ret_bool ?_, by first | exact box_below hcur | (repeat (first | exact Below.refl _ _ | assumption | refine Below.drew ?_ | refine below_drewN ?_ _ | refine Below.alloc ?_ (by first | omega | simp <;> omega) _ | refine Below.setCell ?_ (by first | omega | simp <;> omega) _))⟩
      have he := HE.out
      have hy := HY.out
      clear HE HY H1 H2
      clear hcur
      (try clear k0 k1 k2 k3 k4 k5 k6)
      (try clear k0 k1 k2 k3 k4 k5 k6)
      (try clear hcur)
      (try clear hcur)
      clear hy
      rw [he]
      clear he
      grind
set_option maxRecDepth 100000 in
set_option maxHeartbeats 2000000 in
theorem ref8_formed_other (op k m a : Int) (x nm : ByteArray) (w : World) (h0 : op ≠ 0) (h1 : op ≠ 1) (h20 : op ≠ 20) (h21 : op ≠ 21) : Calls Tryz.prog 100 #[ndV op k m x nm a] w fun e w' => e = .returned (.bool (shapedN op k m (bs x) (bs nm) a)) ∧ Below w.heap.size w w' := by
  have H1 := hide (fun W => ref8_Arity_any op k m a x nm W)
  have hcur := Below.refl (w.heap.size + 1) (w.alloc (ndBox op k m x nm a))
  have b0 : (op == 0) = false := by simpa using h0
  have b1 : (op == 1) = false := by simpa using h1
  have b20 : (op == 20) = false := by simpa using h20
  have b21 : (op == 21) = false := by simpa using h21
  have HE := hide (shapedN_other h0 h1 h20 h21 k m a (bs x) (bs nm))
  have HZ := zero_cases k m x
  have HY := hide (bs_toList nm)
  generalize arityN op a = y at *
  clear h0 h1 h20 h21
  generalize shapedN op k m (bs x) (bs nm) a = r at *
  rcases HZ with ⟨rfl, rfl, rfl, z⟩ | ⟨z1, z⟩ | ⟨rfl, z1, z⟩ | ⟨rfl, rfl, z1, z2, z⟩ <;> (try rw [z] at HE) <;> clear z
  all_goals rcases zero_or a with rfl | za
  all_goals
    go_enter Tryz.func100, Tryz.ntmps100
    go_wp2_with (first
      | (go_at_call 101; refine (H1.out _).mono ?_; rintro e w1 ⟨rfl, hb1⟩; have hcur := below_go hcur (by simp) hb1; obtain ⟨k0, k1, k2, k3, k4, k5, k6⟩ := box6 hcur; clear hb1))
    all_goals
      go_ret
      refine ⟨ret_bool ?_, by first | exact box_below hcur | (repeat (first | exact Below.refl _ _ | assumption | refine Below.drew ?_ | refine below_drewN ?_ _ | refine Below.alloc ?_ (by first | omega | simp <;> omega) _ | refine Below.setCell ?_ (by first | omega | simp <;> omega) _))⟩
      have he := HE.out
      have hy := HY.out
      clear HE HY H1
      simp_all
theorem ref8_formed_any (op k m a : Int) (x nm : ByteArray) (w : World) (hn : nm.size ≤ maxLen) : Calls Tryz.prog 100 #[ndV op k m x nm a] w fun e w' => e = .returned (.bool (shapedN op k m (bs x) (bs nm) a)) ∧ Below w.heap.size w w' := by
  by_cases h0 : op = 0
  · subst h0; exact ref8_formed_0 k m a x nm w
  by_cases h1 : op = 1
  · subst h1; exact ref8_formed_1 k m a x nm w
  by_cases h20 : op = 20
  · subst h20; exact ref8_formed_20 k m a x nm w hn
  by_cases h21 : op = 21
  · subst h21; exact ref8_formed_21 k m a x nm w hn
  exact ref8_formed_other op k m a x nm w h0 h1 h20 h21
end Go.Proofs.YtmbeeefkpgfgmaaGreatDoor

namespace Go.Proofs.YtmbeeefkpgfgmaaGreatDoor
open Go.RowKit Go.WideMaps Go.Maps
set_option maxRecDepth 100000 in
set_option maxHeartbeats 2000000 in
theorem shaped_0 (k m a : Int) (x nm : ByteArray) (w : World) (hW : StrVar w 2 wordsS) : Calls Tryz.prog 91 #[ndV 0 k m x nm a] w fun e w' => e = .returned (.bool (shapedN 0 k m (bs x) (bs nm) a)) ∧ Below w.heap.size w w' := by
  have H1 := hide (fun W => value_Valid_any k m x W)
  have hcur := Below.refl (w.heap.size + 1) (w.alloc (ndBox 0 k m x nm a))
  clear hW
  have HE := hide (shapedN_0 k m a (bs x) (bs nm))
  have HZ := zero_cases k m x
  have HY := hide (bs_toList nm)
  generalize validV k m (bs x) = v at *
  generalize shapedN 0 k m (bs x) (bs nm) a = r at *
  rcases HZ with ⟨rfl, rfl, rfl, z⟩ | ⟨z1, z⟩ | ⟨rfl, z1, z⟩ | ⟨rfl, rfl, z1, z2, z⟩ <;> (try rw [z] at HE) <;> clear z
  all_goals rcases zero_or a with rfl | za
  all_goals
    go_enter Tryz.func91, Tryz.ntmps91
    go_wp2_with (first
      | (go_at_call 159; refine (H1.out _).mono ?_; rintro e w1 ⟨rfl, hb1⟩; have hcur := below_go hcur (by simp) hb1; obtain ⟨k0, k1, k2, k3, k4, k5, k6⟩ := box6 hcur; clear hb1))
    all_goals
      go_ret
      refine ⟨ret_bool ?_, by first | exact box_below hcur | (repeat (first | exact Below.refl _ _ | assumption | refine Below.drew ?_ | refine below_drewN ?_ _ | refine Below.alloc ?_ (by first | omega | simp <;> omega) _ | refine Below.setCell ?_ (by first | omega | simp <;> omega) _))⟩
      have he := HE.out
      have hy := HY.out
      clear HE HY H1
      (try rw [hy] at he)
      clear hy
      rw [he]
      clear he
      grind
set_option maxRecDepth 100000 in
set_option maxHeartbeats 2000000 in
theorem shaped_1 (k m a : Int) (x nm : ByteArray) (w : World) (hW : StrVar w 2 wordsS) : Calls Tryz.prog 91 #[ndV 1 k m x nm a] w fun e w' => e = .returned (.bool (shapedN 1 k m (bs x) (bs nm) a)) ∧ Below w.heap.size w w' := by
  have H1 := hide (fun W => schema_IsName_any nm W)
  have HR := hide (fun W (hb : Below w.heap.size w W) => token_Reserved_w nm W (hW.below hb))
  have hcur := Below.refl (w.heap.size + 1) (w.alloc (ndBox 1 k m x nm a))
  clear hW
  have HE := hide (shapedN_1 k m a (bs x) (bs nm))
  have HZ := zero_cases k m x
  have HY := hide (bs_toList nm)
  generalize isNameB 24 (bs nm) = p at *
  generalize resB (bs nm) = q at *
  generalize shapedN 1 k m (bs x) (bs nm) a = r at *
  rcases HZ with ⟨rfl, rfl, rfl, z⟩ | ⟨z1, z⟩ | ⟨rfl, z1, z⟩ | ⟨rfl, rfl, z1, z2, z⟩ <;> (try rw [z] at HE) <;> clear z
  all_goals rcases zero_or a with rfl | za
  all_goals
    go_enter Tryz.func91, Tryz.ntmps91
    go_wp2_with (first
      | (go_at_call 97; refine (H1.out _).mono ?_; rintro e w1 ⟨rfl, hb1⟩; have hcur := below_go hcur (by simp) hb1; obtain ⟨k0, k1, k2, k3, k4, k5, k6⟩ := box6 hcur; clear hb1)
      | (go_at_call 89; refine (HR.out _ (box_below hcur)).mono ?_; rintro e w1 ⟨rfl, rfl⟩))
    all_goals
      go_ret
      refine ⟨ret_bool ?_, by first | exact box_below hcur | (repeat (first | exact Below.refl _ _ | assumption | refine Below.drew ?_ | refine below_drewN ?_ _ | refine Below.alloc ?_ (by first | omega | simp <;> omega) _ | refine Below.setCell ?_ (by first | omega | simp <;> omega) _))⟩
      have he := HE.out
      have hy := HY.out
      clear HE HY H1 HR
      (try rw [hy] at he)
      clear hy
      rw [he]
      clear he
      grind
set_option maxRecDepth 100000 in
set_option maxHeartbeats 2000000 in
theorem shaped_20 (k m a : Int) (x nm : ByteArray) (w : World) (hW : StrVar w 2 wordsS) (hn : nm.size ≤ maxLen) : Calls Tryz.prog 91 #[ndV 20 k m x nm a] w fun e w' => e = .returned (.bool (shapedN 20 k m (bs x) (bs nm) a)) ∧ Below w.heap.size w w' := by
  have H1 := hide (fun W => schema_IsQualified_any nm W hn)
  have HR := hide (fun W (hb : Below w.heap.size w W) => token_Reserved_w nm W (hW.below hb))
  have hcur := Below.refl (w.heap.size + 1) (w.alloc (ndBox 20 k m x nm a))
  clear hn
  clear hW
  have HE := hide (shapedN_20 k m a (bs x) (bs nm))
  have HZ := zero_cases k m x
  have HY := hide (bs_toList nm)
  generalize isQualB 24 (bs nm) = p at *
  generalize resB (bs nm) = q at *
  generalize shapedN 20 k m (bs x) (bs nm) a = r at *
  rcases HZ with ⟨rfl, rfl, rfl, z⟩ | ⟨z1, z⟩ | ⟨rfl, z1, z⟩ | ⟨rfl, rfl, z1, z2, z⟩ <;> (try rw [z] at HE) <;> clear z
  all_goals rcases zero_or a with rfl | za
  all_goals
    go_enter Tryz.func91, Tryz.ntmps91
    go_wp2_with (first
      | (go_at_call 88; refine (H1.out _).mono ?_; rintro e w1 ⟨rfl, hb1⟩; have hcur := below_go hcur (by simp) hb1; obtain ⟨k0, k1, k2, k3, k4, k5, k6⟩ := box6 hcur; clear hb1)
      | (go_at_call 89; refine (HR.out _ (box_below hcur)).mono ?_; rintro e w1 ⟨rfl, rfl⟩))
    all_goals
      go_ret
      refine ⟨ret_bool ?_, by first | exact box_below hcur | (repeat (first | exact Below.refl _ _ | assumption | refine Below.drew ?_ | refine below_drewN ?_ _ | refine Below.alloc ?_ (by first | omega | simp <;> omega) _ | refine Below.setCell ?_ (by first | omega | simp <;> omega) _))⟩
      have he := HE.out
      have hy := HY.out
      clear HE HY H1 HR
      (try rw [hy] at he)
      clear hy
      rw [he]
      clear he
      grind
set_option maxRecDepth 100000 in
set_option maxHeartbeats 2000000 in
theorem shaped_other (op k m a : Int) (x nm : ByteArray) (w : World) (hW : StrVar w 2 wordsS) (h0 : op ≠ 0) (h1 : op ≠ 1) (h20 : op ≠ 20) (h21 : op ≠ 21) : Calls Tryz.prog 91 #[ndV op k m x nm a] w fun e w' => e = .returned (.bool (shapedN op k m (bs x) (bs nm) a)) ∧ Below w.heap.size w w' := by
  have H1 := hide (fun W => expr_Arity_any op k m a x nm W)
  have hcur := Below.refl (w.heap.size + 1) (w.alloc (ndBox op k m x nm a))
  have b0 : (op == 0) = false := by simpa using h0
  have b1 : (op == 1) = false := by simpa using h1
  have b20 : (op == 20) = false := by simpa using h20
  have b21 : (op == 21) = false := by simpa using h21
  have c0 : (op != 0) = true := by simpa using h0
  have c21 : (op != 21) = true := by simpa using h21
  clear hW
  have HE := hide (shapedN_other h0 h1 h20 h21 k m a (bs x) (bs nm))
  have HZ := zero_cases k m x
  have HY := hide (bs_toList nm)
  generalize arityN op a = y at *
  clear h0 h1 h20 h21
  generalize shapedN op k m (bs x) (bs nm) a = r at *
  rcases HZ with ⟨rfl, rfl, rfl, z⟩ | ⟨z1, z⟩ | ⟨rfl, z1, z⟩ | ⟨rfl, rfl, z1, z2, z⟩ <;> (try rw [z] at HE) <;> clear z
  all_goals rcases zero_or a with rfl | za
  all_goals
    go_enter Tryz.func91, Tryz.ntmps91
    go_wp2_with (first
      | (go_at_call 92; refine (H1.out _).mono ?_; rintro e w1 ⟨rfl, hb1⟩; have hcur := below_go hcur (by simp) hb1; obtain ⟨k0, k1, k2, k3, k4, k5, k6⟩ := box6 hcur; clear hb1))
    all_goals
      go_ret
      refine ⟨ret_bool ?_, by first | exact box_below hcur | (repeat (first | exact Below.refl _ _ | assumption | refine Below.drew ?_ | refine below_drewN ?_ _ | refine Below.alloc ?_ (by first | omega | simp <;> omega) _ | refine Below.setCell ?_ (by first | omega | simp <;> omega) _))⟩
      have he := HE.out
      have hy := HY.out
      clear HE HY H1
      (try rw [hy] at he)
      clear hy
      rw [he]
      clear he
      grind
theorem zeroI (w : World) : (zeroValue 3).run Tryz.prog w = .ok (.int .i64 0) w := by kernel_rfl
theorem bi_look {w : World} {B : Nat} (h : w.ownsMap Tryz.prog 9 (plainElem Tryz.prog 3) B 5 biD) (s : ByteArray) (hs : s.size ≤ maxLen) :
    ∃ c : Int, (Instr.lookup 152 (.map (some B)) (.string s) true).run Tryz.prog w = .ok (.tuple #[.int .i64 c, .bool (biB (bs s))]) w ∧ biD.atKey (.string (bs s)) (.lit (.int .i64 0)) = .lit (.int .i64 c) := by
  obtain ⟨v, ps, hrun, hv⟩ := h.look_ok lawStr Tryz.underlying152 (zeroI w) (plainElem_int Tryz.underlying3 (by decide)) (keyOf_string_mk Tryz.underlying9 hs)
  obtain ⟨c, rfl, hc, hwc⟩ := plainElem_int_inv Tryz.underlying3 hv
  have e : Maps.has biD (.string s.data.toList) = biB (bs s) := biD_has (bs s)
  rw [e] at hrun
  exact ⟨c, hrun, congrArg Prod.fst hc⟩
set_option maxRecDepth 100000 in
set_option maxHeartbeats 2000000 in
theorem shaped_21 (k m a : Int) (x nm : ByteArray) (w : World) (hW : StrVar w 2 wordsS) (hn : nm.size ≤ maxLen) : Calls Tryz.prog 91 #[ndV 21 k m x nm a] w fun e w' => e = .returned (.bool (shapedN 21 k m (bs x) (bs nm) a)) ∧ Below w.heap.size w w' := by
  have H1 := hide (fun W => schema_IsQualified_any nm W hn)
  have HR := hide (fun W (hb : Below w.heap.size w W) => token_Reserved_w nm W (hW.below hb))
  have hcur := Below.refl (w.heap.size + 1) (w.alloc (ndBox 21 k m x nm a))
  have HN := hide hn
  clear hW hn
  have HE := hide (shapedN_21 k m a (bs x) (bs nm))
  have HZ := zero_cases k m x
  have HB := hide (show biB (bs nm) = biB (bs nm) from rfl)
  generalize isQualB 24 (bs nm) = p at *
  generalize resB (bs nm) = q at *
  generalize shapedN 21 k m (bs x) (bs nm) a = r at *
  rcases HZ with ⟨rfl, rfl, rfl, z⟩ | ⟨z1, z⟩ | ⟨rfl, z1, z⟩ | ⟨rfl, rfl, z1, z2, z⟩ <;> (try rw [z] at HE) <;> clear z
  case inl =>
    go_enter Tryz.func91, Tryz.ntmps91
    go_wp2_with fail
    go_region_with (go_at_call 160; refine (builtin_any _).mono ?_; rintro e w1 ⟨⟨B, rfl, hown, hB1, hB2⟩, hb1⟩; have hcur := below_go (show Below (w.heap.size + 1) (w.alloc (ndBox 21 0 0 ⟨#[]⟩ nm a)) _ from by (repeat (first | exact Below.refl _ _ | assumption | refine Below.drew ?_ | refine below_drewN ?_ _ | refine Below.alloc ?_ (by first | omega | simp <;> omega) _ | refine Below.setCell ?_ (by first | omega | simp <;> omega) _))) (by simp) hb1; obtain ⟨k0, k1, k2, k3, k4, k5, k6⟩ := box6 hcur; obtain ⟨c, hrun, _⟩ := bi_look hown nm HN.out; clear hown hb1)
    all_goals
      generalize biB (bs nm) = b at *
      clear hB1 hB2
      go_wp2_with (first
        | (go_at_call 88; refine (H1.out _).mono ?_; rintro e w1 ⟨rfl, hb1⟩; have hcur := below_go hcur (by simp) hb1; obtain ⟨k0, k1, k2, k3, k4, k5, k6⟩ := box6 hcur; clear hb1)
        | (go_at_call 89; refine (HR.out _ (box_below hcur)).mono ?_; rintro e w1 ⟨rfl, rfl⟩))
      all_goals
        go_ret
        refine ⟨ret_bool ?_, by first | exact box_below hcur | (repeat (first | exact Below.refl _ _ | assumption | refine Below.drew ?_ | refine below_drewN ?_ _ | refine Below.alloc ?_ (by first | omega | simp <;> omega) _ | refine Below.setCell ?_ (by first | omega | simp <;> omega) _))⟩
        have he := HE.out
        clear HE H1 HR
        rw [he]
        clear he
        grind
  all_goals
    go_enter Tryz.func91, Tryz.ntmps91
    go_wp2
    go_ret
    refine ⟨ret_bool ?_, by (repeat (first | exact Below.refl _ _ | assumption | refine Below.drew ?_ | refine below_drewN ?_ _ | refine Below.alloc ?_ (by first | omega | simp <;> omega) _ | refine Below.setCell ?_ (by first | omega | simp <;> omega) _))⟩
    rw [HE.out]; rfl
theorem expr_shaped_any (op k m a : Int) (x nm : ByteArray) (w : World) (hW : StrVar w 2 wordsS) (hn : nm.size ≤ maxLen) : Calls Tryz.prog 91 #[ndV op k m x nm a] w fun e w' => e = .returned (.bool (shapedN op k m (bs x) (bs nm) a)) ∧ Below w.heap.size w w' := by
  by_cases h0 : op = 0
  · subst h0; exact shaped_0 k m a x nm w hW
  by_cases h1 : op = 1
  · subst h1; exact shaped_1 k m a x nm w hW
  by_cases h20 : op = 20
  · subst h20; exact shaped_20 k m a x nm w hW hn
  by_cases h21 : op = 21
  · subst h21; exact shaped_21 k m a x nm w hW hn
  exact shaped_other op k m a x nm w hW h0 h1 h20 h21
end Go.Proofs.YtmbeeefkpgfgmaaGreatDoor
namespace Go.Proofs.YtmbeeefkpgfgmaaGreatDoor
open Go.RowKit
theorem and_ffff (i : Int) : bits .and .i64 i 65535 = i % 65536 := by
  show IntKind.i64.wrap ((BitVec.ofInt 64 i &&& BitVec.ofInt 64 65535).toNat : Int) = _
  have h : (BitVec.ofInt 64 (65535 : Int)).toNat = 2 ^ 16 - 1 := by decide
  rw [BitVec.toNat_and, h, Nat.and_two_pow_sub_one_eq_mod, IntKind.wrap_i64]
  simp only [BitVec.toNat_ofInt]
  omega
def lAt (l : List Int) (i : Int) : Int :=
  if l.length = 0 then i % 65536 else (l.getD (i % 65536 % l.length).toNat 0) % 65536 + i % 65536 / l.length
def IntsAt (w : World) (A : Option Addr) (l : List Int) : Prop :=
  l = [] ∨ ∃ a, A = some a ∧ a.block < w.heap.size ∧ l.length ≤ maxLen ∧ ∀ k, k < l.length → w.cell? (a.add k) = some (.int .i64 (l.getD k 0))
theorem IntsAt.below {w w' : World} {A : Option Addr} {l : List Int} (h : IntsAt w A l) (hb : Below w.heap.size w w') : IntsAt w' A l := by
  rcases h with h | ⟨a, rfl, hg, hl, hc⟩
  · exact .inl h
  · refine .inr ⟨a, rfl, Nat.lt_of_lt_of_le hg hb.size, hl, fun k hk => ?_⟩
    rw [hb.cell (p := a.add k) (by cases k <;> simpa [Addr.add] using hg)]; exact hc k hk
set_option maxHeartbeats 1000000 in
theorem at_zero (A : Option Addr) (i : Int) (w : World) (c : Nat) :
    Calls Tryz.prog 70 #[.slice A 0 c, .int .i64 i] w fun e w' => e = .returned (.int .i64 (i % 65536)) ∧ w = w' := by
  have hm := and_ffff i
  go_enter Tryz.func70, Tryz.ntmps70
  go_wp2
  go_ret
  exact ⟨rfl, rfl⟩
set_option maxHeartbeats 1000000 in
theorem at_some (a : Addr) (n : Nat) (x i : Int) (w : World) (c : Nat) (hl : n ≤ maxLen) (h0 : 0 < n)
   (hk : w.cell? (a.add (i % 65536 % (n : Int)).toNat) = some (.int .i64 x)) :
    Calls Tryz.prog 70 #[.slice (some a) n c, .int .i64 i] w fun e w' => e = .returned (.int .i64 (x % 65536 + i % 65536 / n)) ∧ ∃ n, w' = w.drewN n := by
  have hm := and_ffff i
  have hx := and_ffff x
  have b0 : 0 ≤ i % 65536 := by omega
  have b1 : i % 65536 < 65536 := by omega
  have c1 : (0 : Int) < (n : Int) := by omega
  have c2 : 0 ≤ i % 65536 % (n : Int) := Int.emod_nonneg _ (by omega)
  have c3 : i % 65536 % (n : Int) < (n : Int) := Int.emod_lt_of_pos _ (by omega)
  have hz : ((n : Int) == 0) = false := by simp; omega
  have ht : (i % 65536).tmod (n : Int) = i % 65536 % (n : Int) := Int.tmod_eq_emod_of_nonneg b0
  have hd : (i % 65536).tdiv (n : Int) = i % 65536 / (n : Int) := Int.tdiv_eq_ediv_of_nonneg b0
  have d0 : 0 ≤ i % 65536 / (n : Int) := Int.ediv_nonneg b0 (by omega)
  have d1 : i % 65536 / (n : Int) < 65536 := Int.lt_of_le_of_lt (Int.ediv_le_self _ b0) b1
  have HE := hide (show wrap64 (x % 65536 + wrap64 (i % 65536 / (n : Int))) = x % 65536 + i % 65536 / (n : Int) from by
    generalize i % 65536 / (n : Int) = y at d0 d1 ⊢
    rw [IntWalk.wrap64_in y (by omega), IntWalk.wrap64_in _ (by omega)])
  clear d0 d1
  go_enter Tryz.func70, Tryz.ntmps70
  go_wp2
  go_big_quiet (fail)
  go_wp2
  go_ret
  exact ⟨ret_int HE.out, _, rfl⟩
theorem base_At_any (A : Option Addr) (l : List Int) (i : Int) (w : World) (c : Nat) (h : IntsAt w A l) :
    Calls Tryz.prog 70 #[.slice A l.length c, .int .i64 i] w fun e w' => e = .returned (.int .i64 (lAt l i)) ∧ ∃ n, w' = w.drewN n := by
  rcases h with rfl | ⟨a, rfl, hg, hl, hc⟩
  · exact (at_zero A i w c).mono fun e w' ⟨he, hw⟩ => ⟨he, 0, hw.symm⟩
  · by_cases h0 : l.length = 0
    · unfold lAt
      rw [h0]
      exact (at_zero _ i w c).mono fun e w' ⟨he, hw⟩ => ⟨he, 0, hw.symm⟩
    · unfold lAt
      rw [if_neg h0]
      have hp : (0 : Int) < (l.length : Int) := by omega
      have h2 := Int.emod_nonneg (i % 65536) (b := (l.length : Int)) (by omega)
      have h3 := Int.emod_lt_of_pos (i % 65536) hp
      exact at_some a l.length _ i w c hl (by omega) (hc _ ((Int.toNat_lt h2).2 h3))
end Go.Proofs.YtmbeeefkpgfgmaaGreatDoor
