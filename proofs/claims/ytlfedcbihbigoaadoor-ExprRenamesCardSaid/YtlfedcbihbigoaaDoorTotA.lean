/- Contracts that tell only that there is an answer: ref4.within, ref4.Validate, ref5.Index, ref5.Validate. -/
import Derived.Test.YtlfedcbihbigoaaDoorBaseX
set_option linter.unusedVariables false
set_option linter.unusedSimpArgs false
namespace Go.Proofs.YtlfedcbihbigoaaDoor
open Go.RowKit
def SomeInt (e : Ending) : Prop := ∃ x : Int, e = .returned (.int .i64 x)
def SomeBool (e : Ending) : Prop := ∃ b : Bool, e = .returned (.bool b)
def IdxIs (n : Nat) (e : Ending) : Prop := ∃ i : Int, -1 ≤ i ∧ i < n ∧ e = .returned (.int .i64 i)
theorem ref4_within_is (x : Int) (w : World) : ∃ b : Bool, ∀ W, Calls Tryd.prog 80 #[.int .i64 x] W fun e w' => e = .returned (.bool b) ∧ W = w' := by
  refine ⟨decide (-840 ≤ x) && decide (x ≤ 840), fun W => ?_⟩
  go_enter Tryd.func80, Tryd.ntmps80
  go_wp2
  all_goals
    go_ret
    exact ⟨ret_bool (by first | (simp_all; done) | (simp_all; omega)), rfl⟩
theorem ref4_within_any (x : Int) (w : World) : Calls Tryd.prog 80 #[.int .i64 x] w fun e w' => SomeBool e ∧ w = w' := by
  go_enter Tryd.func80, Tryd.ntmps80
  go_wp2
  all_goals
    go_ret
    exact ⟨⟨_, rfl⟩, rfl⟩
set_option maxRecDepth 100000 in
set_option maxHeartbeats 1000000 in
theorem ref5_Index_any (A : Option Addr) (cs : List Col) (c : Nat) (s : ByteArray) (w : World) (h : ColsAt w A cs) (hl : cs.length ≤ 1000000) :
    Calls Tryd.prog 79 #[.slice A cs.length c, .string s] w fun e w' => IdxIs cs.length e ∧ w = w' := by
  have HA := hide h; clear h
  go_enter Tryd.func79, Tryd.ntmps79
  go_wp2
  go_loop [5] (fun i => ∃ k : Nat, k ≤ cs.length ∧ i = .int .i64 k) (fun i => cs.length - (intOf i).toNat)
  case atStart => exact ⟨0, by omega, rfl⟩
  case round =>
    obtain ⟨k, hk, rfl⟩ := hrel
    by_cases hlt : k < cs.length
    · rcases HA.out with e | ⟨g, off, rfl, hg, hc⟩
      · exact absurd hlt (by rw [e]; simp)
      obtain ⟨c0, c1, c2⟩ := hc k hlt
      clear hc
      generalize cs[k] = x at *
      go_wp2
      · go_ret
        exact ⟨⟨k, by omega, by omega, rfl⟩, rfl⟩
      · go_round
        case rel => exact ⟨k + 1, by omega, by go_num⟩
        case measure => simp [intOf]; omega
    · go_wp2
      go_ret
      exact ⟨⟨-1, by omega, by omega, rfl⟩, rfl⟩
set_option maxRecDepth 100000 in
set_option maxHeartbeats 1000000 in
theorem ref5_Validate_any (A : Option Addr) (cs : List Col) (c : Nat) (w : World) (h : ColsAt w A cs) (hl : cs.length ≤ 1000000) :
    Calls Tryd.prog 69 #[.slice A cs.length c] w fun e w' => SomeInt e ∧ w = w' := by
  have HA := hide h
  have HI := hide (fun s => ref5_Index_any A cs c s w h hl)
  clear h
  go_enter Tryd.func69, Tryd.ntmps69
  go_wp2
  · go_ret
    exact ⟨⟨2, rfl⟩, rfl⟩
  · go_ret
    exact ⟨⟨2, rfl⟩, rfl⟩
  · go_loop [3] (fun i => ∃ k : Nat, k ≤ cs.length ∧ i = .int .i64 k) (fun i => cs.length - (intOf i).toNat)
    case atStart => exact ⟨0, by omega, rfl⟩
    case round =>
      obtain ⟨k, hk, rfl⟩ := hrel
      by_cases hlt : k < cs.length
      · rcases HA.out with e | ⟨g, off, rfl, hg, hc⟩
        · exact absurd hlt (by rw [e]; simp)
        obtain ⟨c0, c1, c2⟩ := hc k hlt
        clear hc
        generalize cs[k] = x at *
        go_wp2_with (first
          | (go_at_call 54; refine (ref5_IsName_any _ _).mono ?_; rintro e w' ⟨rfl, rfl⟩)
          | (go_at_call 79; refine (HI.out _).mono ?_; rintro e w' ⟨⟨i, i0, i1, rfl⟩, rfl⟩))
        all_goals
          first
          | (go_ret
             exact ⟨⟨_, rfl⟩, rfl⟩)
          | (go_round
             case rel => exact ⟨k + 1, by omega, by go_num⟩
             case measure => simp [intOf]; omega)
      · go_wp2
        go_ret
        exact ⟨⟨0, rfl⟩, rfl⟩
/-- A slice of pairs of numbers. -/
def ShAt (w : World) (S : Option Addr) (m : Nat) : Prop :=
  m = 0 ∨ ∃ g off, S = some ⟨g, off, none⟩ ∧ g < w.heap.size ∧ ∀ i, i < m → ∃ a b : Int, w.cell? ⟨g, off + i * 2, none⟩ = some (.int .i64 a) ∧ w.cell? ⟨g, off + i * 2 + 1, none⟩ = some (.int .i64 b)
theorem ShAt.below {w w' : World} {S : Option Addr} {m : Nat} (h : ShAt w S m) (hb : Below w.heap.size w w') : ShAt w' S m := by
  rcases h with h | ⟨g, off, hA, hg, hc⟩
  · exact .inl h
  · refine .inr ⟨g, off, hA, Nat.lt_of_lt_of_le hg hb.size, fun i hi => ?_⟩
    obtain ⟨a, b, h1, h2⟩ := hc i hi
    exact ⟨a, b, (hb.cell (p := ⟨g, _, none⟩) hg).trans h1, (hb.cell (p := ⟨g, _, none⟩) hg).trans h2⟩
set_option maxRecDepth 100000 in
set_option maxHeartbeats 2000000 in
theorem ref4_Validate_any (nm : ByteArray) (o : Int) (S : Option Addr) (m c : Nat) (w : World) (h : ShAt w S m) (hl : m ≤ 1000000) :
    Calls Tryd.prog 70 #[.agg #[.string nm, .int .i64 o, .slice S m c]] w fun e w' => SomeInt e ∧ Below w.heap.size w w' := by
  have HA := hide h; clear h
  obtain ⟨b0, HW0⟩ := ref4_within_is o w
  have HW := hide HW0
  clear HW0
  cases b0
  · go_enter Tryd.func70, Tryd.ntmps70
    go_wp2_with (go_at_call 80; refine (HW.out _).mono ?_; rintro e w' ⟨rfl, rfl⟩)
    all_goals
      go_ret
      exact ⟨⟨_, rfl⟩, by (repeat (first | exact Below.refl _ _ | assumption | refine Below.drew ?_ | refine below_drewN ?_ _ | refine Below.alloc ?_ (by first | omega | (simp; done) | (simp; omega)) _ | refine Below.setCell ?_ (by first | omega | (simp; done) | (simp; omega)) _))⟩
  go_enter Tryd.func70, Tryd.ntmps70
  go_wp2_with (go_at_call 80; refine (HW.out _).mono ?_; rintro e w' ⟨rfl, rfl⟩)
  · go_ret
    exact ⟨⟨_, rfl⟩, by (repeat (first | exact Below.refl _ _ | assumption | refine Below.drew ?_ | refine below_drewN ?_ _ | refine Below.alloc ?_ (by first | omega | (simp; done) | (simp; omega)) _ | refine Below.setCell ?_ (by first | omega | (simp; done) | (simp; omega)) _))⟩
  · generalize hW : w.alloc _ = W1
    have hB : Below w.heap.size w W1 := by subst hW; (repeat (first | exact Below.refl _ _ | assumption | refine Below.drew ?_ | refine below_drewN ?_ _ | refine Below.alloc ?_ (by first | omega | (simp; done) | (simp; omega)) _ | refine Below.setCell ?_ (by first | omega | (simp; done) | (simp; omega)) _))
    have hh : W1.heap[w.heap.size]? = some (.cells #[.string nm, .int .i64 o, .slice S m c] 95) := by subst hW; exact heap_alloc_new w _
    clear hW
    go_loopw [3] (fun i wr => ∃ k : Nat, k ≤ m ∧ i = .int .i64 k ∧ Below W1.heap.size W1 wr) (fun i _ => m - (intOf i).toNat)
    case atStart => exact ⟨0, by omega, rfl, Below.refl _ _⟩
    case round =>
      obtain ⟨k, hk, rfl, hbel⟩ := hrel
      have hh2 := (hbel.block _ (lt_of_heap hh)).trans hh
      have z0 : wr.cell? ⟨w.heap.size, 2, none⟩ = some (.slice S m c) := by rw [cell_of_heap hh2]; rfl
      have hsz := hbel.size
      have hbw := bel2 hbel hB
      have hbz := hB.size
      have hlw := lt_of_heap hh
      have HH := hide hh
      clear hh hh2
      by_cases hlt : k < m
      · rcases (HA.out.below hB).below hbel with e | ⟨g, off, rfl, hg, hc⟩
        · omega
        obtain ⟨a, b, c0, c1⟩ := hc k hlt
        by_cases hk0 : k = 0
        · have d0 : decide ((0 : Int) < (k : Int)) = false := by simp; omega
          have d1 : decide (0 < k) = false := by simp; omega
          have hlx : w.heap.size < wr.heap.size := by omega
          clear hc hk0
          go_wp2_with (go_at_call 80; refine (ref4_within_any _ _).mono ?_; rintro e w' ⟨⟨bb, rfl⟩, rfl⟩)
          all_goals
            first
            | (go_ret
               exact ⟨⟨_, rfl⟩, by first | exact hbw | ((repeat (first | exact Below.refl _ _ | assumption | refine Below.drew ?_ | refine below_drewN ?_ _ | refine Below.alloc ?_ (by first | omega | (simp; done) | (simp; omega)) _ | refine Below.setCell ?_ (by first | omega | (simp; done) | (simp; omega)) _)); done) | exact hbw.alloc (by omega) _⟩)
            | (go_big_quiet (fail)
               go_wp2
               first
               | (go_roundw
                  case rel => exact ⟨k + 1, by omega, by go_num, by (repeat (first | exact Below.refl _ _ | assumption | refine Below.drew ?_ | refine below_drewN ?_ _ | refine Below.alloc ?_ (by first | omega | (simp; done) | (simp; omega)) _ | refine Below.setCell ?_ (by first | omega | (simp; done) | (simp; omega)) _))⟩
                  case measure => simp [intOf]; omega)
               | (go_roundw
                  case rel =>
                    repeat apply Exists.intro
                    exact ⟨⟨k + 1, by omega, by go_num, by (repeat (first | exact Below.refl _ _ | assumption | refine Below.drew ?_ | refine below_drewN ?_ _ | refine Below.alloc ?_ (by first | omega | (simp; done) | (simp; omega)) _ | refine Below.setCell ?_ (by first | omega | (simp; done) | (simp; omega)) _))⟩, rfl⟩
                  case measure => simp [intOf]; omega))
        · obtain ⟨a2, b2, c2, c3⟩ := hc (k - 1) (by omega)
          have d0 : decide ((0 : Int) < (k : Int)) = true := by simp; omega
          have d1 : decide (0 < k) = true := by simp; omega
          have hw : IntKind.i64.wrap ((k : Int) - 1) = (k : Int) - 1 := IntWalk.i64_in _ (by omega)
          have ht : ((k : Int) - 1).toNat = k - 1 := by omega
          have hi0 : (0 : Int) ≤ (k : Int) - 1 := by omega
          have hlx : w.heap.size < wr.heap.size := by omega
          have hi2 : (1 : Int) ≤ (k : Int) := by omega
          have hi1 : (k : Int) - 1 < (m : Int) := by omega
          clear hc
          go_wp2_with (go_at_call 80; refine (ref4_within_any _ _).mono ?_; rintro e w' ⟨⟨bb, rfl⟩, rfl⟩)
          all_goals
            first
            | (go_ret
               exact ⟨⟨_, rfl⟩, by first | exact hbw | ((repeat (first | exact Below.refl _ _ | assumption | refine Below.drew ?_ | refine below_drewN ?_ _ | refine Below.alloc ?_ (by first | omega | (simp; done) | (simp; omega)) _ | refine Below.setCell ?_ (by first | omega | (simp; done) | (simp; omega)) _)); done) | exact hbw.alloc (by omega) _⟩)
            | (go_big_quiet (fail)
               go_wp2
               all_goals
                 first
                 | (go_ret
                    exact ⟨⟨_, rfl⟩, by first | ((repeat (first | exact Below.refl _ _ | assumption | refine Below.drew ?_ | refine below_drewN ?_ _ | refine Below.alloc ?_ (by first | omega | (simp; done) | (simp; omega)) _ | refine Below.setCell ?_ (by first | omega | (simp; done) | (simp; omega)) _)); done) | exact (hbw.alloc (by omega) _).drew⟩)
                 | (go_roundw
                    case rel => exact ⟨k + 1, by omega, by go_num, by (repeat (first | exact Below.refl _ _ | assumption | refine Below.drew ?_ | refine below_drewN ?_ _ | refine Below.alloc ?_ (by first | omega | (simp; done) | (simp; omega)) _ | refine Below.setCell ?_ (by first | omega | (simp; done) | (simp; omega)) _))⟩
                    case measure => simp [intOf]; omega))
      · go_wp2
        go_ret
        exact ⟨⟨_, rfl⟩, hbw⟩
end Go.Proofs.YtlfedcbihbigoaaDoor
