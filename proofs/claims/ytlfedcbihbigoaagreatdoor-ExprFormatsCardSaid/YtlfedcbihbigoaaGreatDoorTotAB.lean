/- Contracts that tell only that there is an answer: ref4.within, ref4.Validate, ref5.Index, ref5.Validate. Contracts that tell only that there is an answer: the types of operators (ref9.fits, common, unary, difference, binary, Zone). -/
import Derived.Test.YtlfedcbihbigoaaGreatDoorBaseVX
import Derived.Deep.RegionHeld3
set_option linter.unusedVariables false
set_option linter.unusedSimpArgs false
namespace Go.Proofs.YtlfedcbihbigoaaGreatDoor
open Go.RowKit
def SomeInt (e : Ending) : Prop := ∃ x : Int, e = .returned (.int .i64 x)
def SomeBool (e : Ending) : Prop := ∃ b : Bool, e = .returned (.bool b)
def IdxIs (n : Nat) (e : Ending) : Prop := ∃ i : Int, -1 ≤ i ∧ i < n ∧ e = .returned (.int .i64 i)
theorem ref4_within_is (x : Int) (w : World) : ∃ b : Bool, ∀ W, Calls Tryz.prog 144 #[.int .i64 x] W fun e w' => e = .returned (.bool b) ∧ W = w' := by
  refine ⟨decide (-840 ≤ x) && decide (x ≤ 840), fun W => ?_⟩
  go_enter Tryz.func144, Tryz.ntmps144
  go_wp2
  all_goals
    go_ret
    exact ⟨ret_bool (by first | (simp_all; done) | (simp_all; omega)), rfl⟩
theorem ref4_within_any (x : Int) (w : World) : Calls Tryz.prog 144 #[.int .i64 x] w fun e w' => SomeBool e ∧ w = w' := by
  go_enter Tryz.func144, Tryz.ntmps144
  go_wp2
  all_goals
    go_ret
    exact ⟨⟨_, rfl⟩, rfl⟩
set_option maxRecDepth 100000 in
set_option maxHeartbeats 1000000 in
theorem ref5_Index_any (A : Option Addr) (cs : List Col) (c : Nat) (s : ByteArray) (w : World) (h : ColsAt w A cs) (hl : cs.length ≤ 1000000) :
    Calls Tryz.prog 143 #[.slice A cs.length c, .string s] w fun e w' => IdxIs cs.length e ∧ w = w' := by
  have HA := hide h; clear h
  go_enter Tryz.func143, Tryz.ntmps143
  go_wp2
  go_loop [5] (fun i => ∃ k : Nat, k ≤ cs.length ∧ i = .int .i64 k) (fun i => cs.length - (intOf i).toNat)
  case atStart => exact ⟨0, by omega, rfl⟩
  case round =>
    obtain ⟨k, hk, rfl⟩ := hrel
    by_cases hlt : k < cs.length
    · rcases HA.out with e | ⟨g, off, rfl, hg, hc⟩
      · exact absurd hlt (by rw [e]; simp)
      obtain ⟨c0, c1, c2⟩ := hc k hlt
      clear hc
      generalize cs[k] = x at *
      go_wp2
      · go_ret
        exact ⟨⟨k, by omega, by omega, rfl⟩, rfl⟩
      · go_round
        case rel => exact ⟨k + 1, by omega, by go_num⟩
        case measure => simp [intOf]; omega
    · go_wp2
      go_ret
      exact ⟨⟨-1, by omega, by omega, rfl⟩, rfl⟩
set_option maxRecDepth 100000 in
set_option maxHeartbeats 1000000 in
theorem ref5_Validate_any (A : Option Addr) (cs : List Col) (c : Nat) (w : World) (h : ColsAt w A cs) (hl : cs.length ≤ 1000000) :
    Calls Tryz.prog 117 #[.slice A cs.length c] w fun e w' => SomeInt e ∧ w = w' := by
  have HA := hide h
  have HI := hide (fun s => ref5_Index_any A cs c s w h hl)
  clear h
  go_enter Tryz.func117, Tryz.ntmps117
  go_wp2
  · go_ret
    exact ⟨⟨2, rfl⟩, rfl⟩
  · go_ret
    exact ⟨⟨2, rfl⟩, rfl⟩
  · go_loop [3] (fun i => ∃ k : Nat, k ≤ cs.length ∧ i = .int .i64 k) (fun i => cs.length - (intOf i).toNat)
    case atStart => exact ⟨0, by omega, rfl⟩
    case round =>
      obtain ⟨k, hk, rfl⟩ := hrel
      by_cases hlt : k < cs.length
      · rcases HA.out with e | ⟨g, off, rfl, hg, hc⟩
        · exact absurd hlt (by rw [e]; simp)
        obtain ⟨c0, c1, c2⟩ := hc k hlt
        clear hc
        generalize cs[k] = x at *
        go_wp2_with (first
          | (go_at_call 105; refine (ref5_IsName_any _ _).mono ?_; rintro e w' ⟨rfl, rfl⟩)
          | (go_at_call 143; refine (HI.out _).mono ?_; rintro e w' ⟨⟨i, i0, i1, rfl⟩, rfl⟩))
        all_goals
          first
          | (go_ret
             exact ⟨⟨_, rfl⟩, rfl⟩)
          | (go_round
             case rel => exact ⟨k + 1, by omega, by go_num⟩
             case measure => simp [intOf]; omega)
      · go_wp2
        go_ret
        exact ⟨⟨0, rfl⟩, rfl⟩
/-- A slice of pairs of numbers. -/
def ShAt (w : World) (S : Option Addr) (m : Nat) : Prop :=
  m = 0 ∨ ∃ g off, S = some ⟨g, off, none⟩ ∧ g < w.heap.size ∧ ∀ i, i < m → ∃ a b : Int, w.cell? ⟨g, off + i * 2, none⟩ = some (.int .i64 a) ∧ w.cell? ⟨g, off + i * 2 + 1, none⟩ = some (.int .i64 b)
theorem ShAt.below {w w' : World} {S : Option Addr} {m : Nat} (h : ShAt w S m) (hb : Below w.heap.size w w') : ShAt w' S m := by
  rcases h with h | ⟨g, off, hA, hg, hc⟩
  · exact .inl h
  · refine .inr ⟨g, off, hA, Nat.lt_of_lt_of_le hg hb.size, fun i hi => ?_⟩
    obtain ⟨a, b, h1, h2⟩ := hc i hi
    exact ⟨a, b, (hb.cell (p := ⟨g, _, none⟩) hg).trans h1, (hb.cell (p := ⟨g, _, none⟩) hg).trans h2⟩
set_option maxRecDepth 100000 in
set_option maxHeartbeats 2000000 in
theorem ref4_Validate_any (nm : ByteArray) (o : Int) (S : Option Addr) (m c : Nat) (w : World) (h : ShAt w S m) (hl : m ≤ 1000000) :
    Calls Tryz.prog 118 #[.agg #[.string nm, .int .i64 o, .slice S m c]] w fun e w' => SomeInt e ∧ Below w.heap.size w w' := by
  have HA := hide h; clear h
  obtain ⟨b0, HW0⟩ := ref4_within_is o w
  have HW := hide HW0
  clear HW0
  cases b0
  · go_enter Tryz.func118, Tryz.ntmps118
    go_wp2_with (go_at_call 144; refine (HW.out _).mono ?_; rintro e w' ⟨rfl, rfl⟩)
    all_goals
      go_ret
      exact ⟨⟨_, rfl⟩, by (repeat (first | exact Below.refl _ _ | assumption | refine Below.drew ?_ | refine below_drewN ?_ _ | refine Below.alloc ?_ (by first | omega | simp <;> omega) _ | refine Below.setCell ?_ (by first | omega | simp <;> omega) _))⟩
  go_enter Tryz.func118, Tryz.ntmps118
  go_wp2_with (go_at_call 144; refine (HW.out _).mono ?_; rintro e w' ⟨rfl, rfl⟩)
  · go_ret
    exact ⟨⟨_, rfl⟩, by (repeat (first | exact Below.refl _ _ | assumption | refine Below.drew ?_ | refine below_drewN ?_ _ | refine Below.alloc ?_ (by first | omega | simp <;> omega) _ | refine Below.setCell ?_ (by first | omega | simp <;> omega) _))⟩
  · generalize hW : w.alloc _ = W1
    have hB : Below w.heap.size w W1 := by subst hW; (repeat (first | exact Below.refl _ _ | assumption | refine Below.drew ?_ | refine below_drewN ?_ _ | refine Below.alloc ?_ (by first | omega | simp <;> omega) _ | refine Below.setCell ?_ (by first | omega | simp <;> omega) _))
    have hh : W1.heap[w.heap.size]? = some (.cells #[.string nm, .int .i64 o, .slice S m c] 149) := by subst hW; exact heap_alloc_new w _
    clear hW
    go_loopw [3] (fun i wr => ∃ k : Nat, k ≤ m ∧ i = .int .i64 k ∧ Below W1.heap.size W1 wr) (fun i _ => m - (intOf i).toNat)
    case atStart => exact ⟨0, by omega, rfl, Below.refl _ _⟩
    case round =>
      obtain ⟨k, hk, rfl, hbel⟩ := hrel
      have hh2 := (hbel.block _ (lt_of_heap hh)).trans hh
      have z0 : wr.cell? ⟨w.heap.size, 2, none⟩ = some (.slice S m c) := by rw [cell_of_heap hh2]; rfl
      have hsz := hbel.size
      have hbw := bel2 hbel hB
      have hbz := hB.size
      have hlw := lt_of_heap hh
      have HH := hide hh
      clear hh hh2
      by_cases hlt : k < m
      · rcases (HA.out.below hB).below hbel with e | ⟨g, off, rfl, hg, hc⟩
        · omega
        obtain ⟨a, b, c0, c1⟩ := hc k hlt
        by_cases hk0 : k = 0
        · have d0 : decide ((0 : Int) < (k : Int)) = false := by simp; omega
          have d1 : decide (0 < k) = false := by simp; omega
          have hlx : w.heap.size < wr.heap.size := by omega
          clear hc hk0
          go_wp2_with (go_at_call 144; refine (ref4_within_any _ _).mono ?_; rintro e w' ⟨⟨bb, rfl⟩, rfl⟩)
          all_goals
            first
            | (go_ret
               exact ⟨⟨_, rfl⟩, by first | exact hbw | ((repeat (first | exact Below.refl _ _ | assumption | refine Below.drew ?_ | refine below_drewN ?_ _ | refine Below.alloc ?_ (by first | omega | simp <;> omega) _ | refine Below.setCell ?_ (by first | omega | simp <;> omega) _)); done) | exact hbw.alloc (by omega) _⟩)
            | (go_big_quiet (fail)
               go_wp2
               first
               | (go_roundw
                  case rel => exact ⟨k + 1, by omega, by go_num, by (repeat (first | exact Below.refl _ _ | assumption | refine Below.drew ?_ | refine below_drewN ?_ _ | refine Below.alloc ?_ (by first | omega | simp <;> omega) _ | refine Below.setCell ?_ (by first | omega | simp <;> omega) _))⟩
                  case measure => simp [intOf]; omega)
               | (go_roundw
                  case rel =>
                    repeat apply Exists.intro
                    exact ⟨⟨k + 1, by omega, by go_num, by (repeat (first | exact Below.refl _ _ | assumption | refine Below.drew ?_ | refine below_drewN ?_ _ | refine Below.alloc ?_ (by first | omega | simp <;> omega) _ | refine Below.setCell ?_ (by first | omega | simp <;> omega) _))⟩, rfl⟩
                  case measure => simp [intOf]; omega))
        · obtain ⟨a2, b2, c2, c3⟩ := hc (k - 1) (by omega)
          have d0 : decide ((0 : Int) < (k : Int)) = true := by simp; omega
          have d1 : decide (0 < k) = true := by simp; omega
          have hw : IntKind.i64.wrap ((k : Int) - 1) = (k : Int) - 1 := IntWalk.i64_in _ (by omega)
          have ht : ((k : Int) - 1).toNat = k - 1 := by omega
          have hi0 : (0 : Int) ≤ (k : Int) - 1 := by omega
          have hlx : w.heap.size < wr.heap.size := by omega
          have hi2 : (1 : Int) ≤ (k : Int) := by omega
          have hi1 : (k : Int) - 1 < (m : Int) := by omega
          clear hc
          go_wp2_with (go_at_call 144; refine (ref4_within_any _ _).mono ?_; rintro e w' ⟨⟨bb, rfl⟩, rfl⟩)
          all_goals
            first
            | (go_ret
               exact ⟨⟨_, rfl⟩, by first | exact hbw | ((repeat (first | exact Below.refl _ _ | assumption | refine Below.drew ?_ | refine below_drewN ?_ _ | refine Below.alloc ?_ (by first | omega | simp <;> omega) _ | refine Below.setCell ?_ (by first | omega | simp <;> omega) _)); done) | exact hbw.alloc (by omega) _⟩)
            | (go_big_quiet (fail)
               go_wp2
               all_goals
                 first
                 | (go_ret
                    exact ⟨⟨_, rfl⟩, by first | ((repeat (first | exact Below.refl _ _ | assumption | refine Below.drew ?_ | refine below_drewN ?_ _ | refine Below.alloc ?_ (by first | omega | simp <;> omega) _ | refine Below.setCell ?_ (by first | omega | simp <;> omega) _)); done) | exact (hbw.alloc (by omega) _).drew⟩)
                 | (go_roundw
                    case rel => exact ⟨k + 1, by omega, by go_num, by (repeat (first | exact Below.refl _ _ | assumption | refine Below.drew ?_ | refine below_drewN ?_ _ | refine Below.alloc ?_ (by first | omega | simp <;> omega) _ | refine Below.setCell ?_ (by first | omega | simp <;> omega) _))⟩
                    case measure => simp [intOf]; omega))
      · go_wp2
        go_ret
        exact ⟨⟨_, rfl⟩, hbw⟩
end Go.Proofs.YtlfedcbihbigoaaGreatDoor

namespace Go.Proofs.YtlfedcbihbigoaaGreatDoor
open Go.RowKit
def fitK (k kind : Int) : Bool := k == kind || k == 0
abbrev knV (k : Int) (b : Bool) : Value := .agg #[.int .i64 k, .bool b]
abbrev knO (k : Int) (b : Bool) : Obj := .cells #[.int .i64 k, .bool b] 152
theorem ref9_fits_any (k kind : Int) (b : Bool) (w : World) : Calls Tryz.prog 146 #[knV k b, .int .i64 kind] w fun e w' => e = .returned (.bool (fitK k kind)) ∧ w.alloc (knO k b) = w' := by
  have HE := hide (show fitK k kind = (k == kind || k == 0) from rfl)
  by_cases h : k = kind
  · subst h
    go_enter Tryz.func146, Tryz.ntmps146
    go_wp2
    go_ret
    exact ⟨ret_bool (by rw [HE.out]; simp), rfl⟩
  · have hb : (k == kind) = false := by simpa using h
    go_enter Tryz.func146, Tryz.ntmps146
    go_wp2
    go_ret
    exact ⟨ret_bool (by rw [HE.out, hb]; simp), rfl⟩
def KnIs (e : Ending) : Prop := ∃ (k : Int) (b c : Bool), e = .returned (.tuple #[.agg #[.int .i64 k, .bool b], .bool c])
def CmIs (e : Ending) : Prop := ∃ (k : Int) (c : Bool), e = .returned (.tuple #[.int .i64 k, .bool c])
set_option maxRecDepth 100000 in
set_option maxHeartbeats 2000000 in
theorem ref9_difference_any (k1 k2 : Int) (b1 b2 : Bool) (w : World) : Calls Tryz.prog 166 #[knV k1 b1, knV k2 b2] w fun e w' => KnIs e ∧ Below w.heap.size w w' := by
  go_enter Tryz.func166, Tryz.ntmps166
  go_wp2_with (go_at_call 146; refine (ref9_fits_any _ _ _ _).mono ?_; rintro e w' ⟨rfl, rfl⟩)
  all_goals
    refine bodyPost_ex rfl ?_
    apply Exists.intro
    apply And.intro
    · simp [results, Tryz.results166, go_sem]; rfl
    · exact ⟨⟨_, _, _, rfl⟩, by (repeat (first | exact Below.refl _ _ | assumption | refine Below.drew ?_ | refine below_drewN ?_ _ | refine Below.alloc ?_ (by first | omega | simp <;> omega) _ | refine Below.setCell ?_ (by first | omega | simp <;> omega) _))⟩
set_option maxRecDepth 100000 in
set_option maxHeartbeats 1000000 in
theorem ref9_common_any (k1 k2 : Int) (b1 b2 : Bool) (w : World) : Calls Tryz.prog 145 #[knV k1 b1, knV k2 b2] w fun e w' => CmIs e ∧ Below w.heap.size w w' := by
  go_enter Tryz.func145, Tryz.ntmps145
  go_wp2
  · go_ret2
    exact ⟨⟨_, _, rfl⟩, by (repeat (first | exact Below.refl _ _ | assumption | refine Below.drew ?_ | refine below_drewN ?_ _ | refine Below.alloc ?_ (by first | omega | simp <;> omega) _ | refine Below.setCell ?_ (by first | omega | simp <;> omega) _))⟩
  · go_region_with (go_at_call 146; refine (ref9_fits_any _ _ _ _).mono ?_; rintro e w' ⟨rfl, rfl⟩)
    all_goals
      go_wp2
      go_ret2
      exact ⟨⟨_, _, rfl⟩, by (repeat (first | exact Below.refl _ _ | assumption | refine Below.drew ?_ | refine below_drewN ?_ _ | refine Below.alloc ?_ (by first | omega | simp <;> omega) _ | refine Below.setCell ?_ (by first | omega | simp <;> omega) _))⟩
set_option maxRecDepth 100000 in
set_option maxHeartbeats 2000000 in
theorem ref9_unary_any (op k : Int) (b : Bool) (w : World) : Calls Tryz.prog 148 #[.int .i64 op, knV k b] w fun e w' => KnIs e ∧ Below w.heap.size w w' := by
  go_enter Tryz.func148, Tryz.ntmps148
  go_wp2
  · go_region_with (go_at_call 146; refine (ref9_fits_any _ _ _ _).mono ?_; rintro e w' ⟨rfl, rfl⟩)
    all_goals
      go_wp2
      refine bodyPost_ret (v := .tuple #[knV 1 b, .bool (fitK k 1)]) (by simp [results, Tryz.results148, go_sem]) rfl ⟨⟨_, _, _, rfl⟩, by (repeat (first | exact Below.refl _ _ | assumption | refine Below.drew ?_ | refine below_drewN ?_ _ | refine Below.alloc ?_ (by first | omega | simp <;> omega) _ | refine Below.setCell ?_ (by first | omega | simp <;> omega) _))⟩
  · go_region_with (go_at_call 146; refine (ref9_fits_any _ _ _ _).mono ?_; rintro e w' ⟨rfl, rfl⟩)
    all_goals
      go_wp2
      refine bodyPost_ret (v := .tuple #[knV 2 b, .bool (fitK k 2)]) (by simp [results, Tryz.results148, go_sem]) rfl ⟨⟨_, _, _, rfl⟩, by (repeat (first | exact Below.refl _ _ | assumption | refine Below.drew ?_ | refine below_drewN ?_ _ | refine Below.alloc ?_ (by first | omega | simp <;> omega) _ | refine Below.setCell ?_ (by first | omega | simp <;> omega) _))⟩
  · refine bodyPost_ret (v := .tuple #[knV 1 false, .bool true]) (by simp [results, Tryz.results148, go_sem]) rfl ⟨⟨_, _, _, rfl⟩, by (repeat (first | exact Below.refl _ _ | assumption | refine Below.drew ?_ | refine below_drewN ?_ _ | refine Below.alloc ?_ (by first | omega | simp <;> omega) _ | refine Below.setCell ?_ (by first | omega | simp <;> omega) _))⟩
  · go_region_with (go_at_call 146; refine (ref9_fits_any _ _ _ _).mono ?_; rintro e w' ⟨rfl, rfl⟩)
    all_goals
      go_wp2
      refine bodyPost_ret (v := .tuple #[knV 2 b, .bool (fitK k 3)]) (by simp [results, Tryz.results148, go_sem]) rfl ⟨⟨_, _, _, rfl⟩, by (repeat (first | exact Below.refl _ _ | assumption | refine Below.drew ?_ | refine below_drewN ?_ _ | refine Below.alloc ?_ (by first | omega | simp <;> omega) _ | refine Below.setCell ?_ (by first | omega | simp <;> omega) _))⟩
  · go_region_with (go_at_call 146; refine (ref9_fits_any _ _ _ _).mono ?_; rintro e w' ⟨rfl, rfl⟩)
    all_goals
      go_wp2
      refine bodyPost_ret (v := .tuple #[knV 2 b, .bool (fitK k 4)]) (by simp [results, Tryz.results148, go_sem]) rfl ⟨⟨_, _, _, rfl⟩, by (repeat (first | exact Below.refl _ _ | assumption | refine Below.drew ?_ | refine below_drewN ?_ _ | refine Below.alloc ?_ (by first | omega | simp <;> omega) _ | refine Below.setCell ?_ (by first | omega | simp <;> omega) _))⟩
end Go.Proofs.YtlfedcbihbigoaaGreatDoor
