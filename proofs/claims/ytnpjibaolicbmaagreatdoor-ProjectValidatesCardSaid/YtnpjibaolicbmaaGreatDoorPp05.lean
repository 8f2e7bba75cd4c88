/- Parts of the proof. -/
import Derived.Test.YtnpjibaolicbmaaGreatDoorPp01
import Derived.Deep.RegionWith
import Derived.Deep.RegionHeld3
import Derived.RegionTactic
import Derived.WalkSmall
import Derived.Test.YtnpjibaolicbmaaGreatDoorRows
import Derived.ProofKit
import Derived.LaidMore
import Derived.OpenShut
import Derived.ShutString
import Derived.MakeChecks
import Derived.Stop.Joined
import Derived.HandedShaped
import Derived.Shelf.Vars
import Derived.LaidSub
import Derived.Lay
import Derived.Lib.LaidTab
set_option linter.unusedVariables false
set_option linter.unusedSimpArgs false
set_option maxHeartbeats 1000000
namespace Go.Proofs.YtnpjibaolicbmaaGreatDoor
open Go.Proofs.Tryz
section
open Go.RowKit
theorem e_R (i : Int) : bits .and .i64 i 65535 = i % 65536 := by
 show IntKind.i64.wrap ((BitVec.ofInt 64 i &&& BitVec.ofInt 64 65535).toNat : Int) = _
 have h : (BitVec.ofInt 64 (65535 : Int)).toNat = 2 ^ 16 - 1 := by decide
 rw [BitVec.toNat_and, h, Nat.and_two_pow_sub_one_eq_mod, IntKind.wrap_i64]
 simp only [BitVec.toNat_ofInt]
 omega
def lAt (l : List Int) (i : Int) : Int :=
 if l.length = 0 then i % 65536 else (l.getD (i % 65536 % l.length).toNat 0) % 65536 + i % 65536 / l.length
def b_R (w : World) (A : Option Addr) (l : List Int) : Prop :=
 l = [] ∨ ∃ a, A = some a ∧ a.block < w.heap.size ∧ l.length ≤ maxLen ∧ ∀ k, k < l.length → w.cell? (a.add k) = some (.int .i64 (l.getD k 0))
theorem b_R.below {w w' : World} {A : Option Addr} {l : List Int} (h : b_R w A l) (hb : Below w.heap.size w w') : b_R w' A l := by
 rcases h with h | ⟨a, rfl, hg, hl, hc⟩
 ·exact .inl h
 ·refine .inr ⟨a, rfl, Nat.lt_of_lt_of_le hg hb.size, hl, fun k hk => ?_⟩
  rw [hb.cell (p := a.add k) (by cases k <;> simpa [Addr.add] using hg)]; exact hc k hk
theorem k_F (A : Option Addr) (i : Int) (w : World) (c : Nat) :
  Calls prog 17 #[.slice A 0 c, .int .i64 i] w fun e w' => e = .returned (.int .i64 (i % 65536)) ∧ w = w' := by
 have hm := e_R i
 go_enter func17, ntmps17
 go_wp2
 exact m_Y
theorem n_y (a : Addr) (n : Nat) (x i : Int) (w : World) (c : Nat) (hl : n ≤ maxLen) (h0 : 0 < n)
   (hk : w.cell? (a.add (i % 65536 % (n : Int)).toNat) = some (.int .i64 x)) :
    Calls prog 17 #[.slice (some a) n c, .int .i64 i] w fun e w' => e = .returned (.int .i64 (x % 65536 + i % 65536 / n)) ∧ ∃ n, w' = w.drewN n := by
  have hm := e_R i
  have hx := e_R x
  have b0 : 0 ≤ i % 65536 := by omega
  have b1 : i % 65536 < 65536 := by omega
  have c1 : (0 : Int) < (n : Int) := by omega
  have c2 : 0 ≤ i % 65536 % (n : Int) := Int.emod_nonneg _ o_
  have c3 : i % 65536 % (n : Int) < (n : Int) := Int.emod_lt_of_pos _ o_
  have hz : ((n : Int) == 0) = false := by simp; omega
  have ht : (i % 65536).tmod (n : Int) = i % 65536 % (n : Int) := Int.tmod_eq_emod_of_nonneg b0
  have hd : (i % 65536).tdiv (n : Int) = i % 65536 / (n : Int) := Int.tdiv_eq_ediv_of_nonneg b0
  have d0 : 0 ≤ i % 65536 / (n : Int) := Int.ediv_nonneg b0 o_
  have d1 : i % 65536 / (n : Int) < 65536 := Int.lt_of_le_of_lt (Int.ediv_le_self _ b0) b1
  have HE := a_2 (show wrap64 (x % 65536 + wrap64 (i % 65536 / (n : Int))) = x % 65536 + i % 65536 / (n : Int) from by
    generalize i % 65536 / (n : Int) = y at d0 d1 ⊢
    rw [IntWalk.wrap64_in y o_, IntWalk.wrap64_in _ o_])
  clear d0 d1
  go_enter func17, ntmps17
  go_wp2
  go_big_quiet (fail)
  go_wp2
  go_ret
  exact ⟨a_d HE.out, _, rfl⟩
theorem e_r (A : Option Addr) (l : List Int) (i : Int) (w : World) (c : Nat) (h : b_R w A l) :
  Calls prog 17 #[.slice A l.length c, .int .i64 i] w fun e w' => e = .returned (.int .i64 (lAt l i)) ∧ ∃ n, w' = w.drewN n := by
 rcases h with rfl | ⟨a, rfl, hg, hl, hc⟩
 ·exact (k_F A i w c).mono fun e w' ⟨he, hw⟩ => ⟨he, 0, hw.symm⟩
 ·by_cases h0 : l.length = 0
  ·unfold lAt
   rw [h0]; exact (k_F _ i w c).mono fun e w' ⟨he, hw⟩ => ⟨he, 0, hw.symm⟩
  ·unfold lAt
   rw [if_neg h0]; have hp : (0 : Int) < (l.length : Int) := by omega
   have h2 := Int.emod_nonneg (i % 65536) (b := (l.length : Int)) o_; have h3 := Int.emod_lt_of_pos (i % 65536) hp; exact n_y a l.length _ i w c hl o_ (hc _ ((Int.toNat_lt h2).2 h3))
section
variable {P : Program} {ops : Array Oper} {Q : Exit → Act → World → Prop} {md : Region.Mode} {S : World → Prop}
theorem zT (i : Nat) {oi : Oper} {v : Value} {fuel : Nat} {listed : Array Bool} {a : Act} {w : World} {G : Prop} (h : G) (hi : ops[i]? = some oi := by exact rfl)
  (hs : Region.noSelect ops = true := by kernel_rfl) (hf : Region.free md ops listed i = true := by kernel_rfl) (hr : (Region.ready md ops listed).contains i = true := by kernel_rfl)
  (hQ : ∀ c a w, Q (.panic c) (a.put oi.dst v) w → Q (.panic c) a w := by exact fun _ _ _ h => h) (hw : Region.wanted oi (yielded ops a.tmps) = true := by kernel_rfl)
  (hy : ∀ w9, S w9 → (execOp a.eval oi).run P w9 = .ok (.value v) w9 := by intro w9 hSw; (try dsimp only at hSw); go_simp; first | done | with_reducible rfl)
  (hS : S w := by assumption) (hn : wpAnyH P md ops Q S fuel (listed.setIfInBounds i true) (a.put oi.dst v) w = G := by (try simp only [Act.put, List.setIfInBounds_toArray, List.set_cons_zero, List.set_cons_succ]); exact rfl) :
  wpAnyH P md ops Q S (fuel + 1) listed a w := wpAnyH_take hi hs hf hr hQ (Or.inl ⟨hw, hy⟩) hS (hn.mpr h)
theorem zK (i : Nat) {oi : Oper} {fuel : Nat} {listed : Array Bool} {a : Act} {w : World} {G : Prop} (h : G) (hi : ops[i]? = some oi := by exact rfl)
  (hs : Region.noSelect ops = true := by kernel_rfl) (hf : Region.free md ops listed i = true := by kernel_rfl) (hr : (Region.ready md ops listed).contains i = true := by kernel_rfl)
  (hQ : ∀ c a w, Q (.panic c) (a.put oi.dst undef) w → Q (.panic c) a w := by exact fun _ _ _ h => h) (hw : Region.wanted oi (yielded ops a.tmps) = false := by kernel_rfl)
  (hS : S w := by assumption) (hn : wpAnyH P md ops Q S fuel (listed.setIfInBounds i true) (a.put oi.dst undef) w = G := by (try simp only [Act.put, List.setIfInBounds_toArray, List.set_cons_zero, List.set_cons_succ]); exact rfl) :
  wpAnyH P md ops Q S (fuel + 1) listed a w := wpAnyH_take hi hs hf hr hQ (Or.inr ⟨hw, rfl⟩) hS (hn.mpr h)
theorem zR (i : Nat) {o : Oper} {fuel : Nat} {listed : Array Bool} {a : Act} {w : World} (h : ∀ K' : Act → World → Prop, Shut (∀ a w, S w → (S w → wpAnyH P md ops Q S fuel (listed.setIfInBounds i true) a w) → K' a w) → if Region.wanted o (yielded ops a.tmps) = true then Oper.wp P o a w K' Q else K' (a.put o.dst undef) w)
  (ho : ops[i]? = some o := by exact rfl) (hr : Region.ready md ops listed = [i] := by kernel_rfl) : wpAnyH P md ops Q S (fuel + 1) listed a w :=
 wpAnyH_ready hr s_ (AllReadyH.cons ho h AllReadyH.nil)
theorem zB {K' : Act → World → Prop} {fuel : Nat} {listed : Array Bool} {a : Act} {w : World} {G : Prop} (hK : Shut (∀ a w, S w → (S w → wpAnyH P md ops Q S fuel listed a w) → K' a w)) (hS : S w) (h : S w → G)
  (hn : wpAnyH P md ops Q S fuel listed a w = G := by (try simp only [Act.put, List.setIfInBounds_toArray, List.set_cons_zero, List.set_cons_succ]); exact rfl) : K' a w := hK.out a w hS (fun s => hn.mpr (h s))
theorem yT (i : Nat) {oi : Oper} {v : Value} {fuel : Nat} {listed : Array Bool} {a : Act} {w : World} (h : wpAny P md ops Q fuel (listed.setIfInBounds i true) (a.put oi.dst v) w) (hi : ops[i]? = some oi := by exact rfl)
  (hs : Region.noSelect ops = true := by kernel_rfl) (hf : Region.free md ops listed i = true := by kernel_rfl) (hr : (Region.ready md ops listed).contains i = true := by kernel_rfl)
  (hQ : ∀ c a w, Q (.panic c) (a.put oi.dst v) w → Q (.panic c) a w := by exact fun _ _ _ h => h) (hw : Region.wanted oi (yielded ops a.tmps) = true := by kernel_rfl)
  (hy : ∀ w9, (execOp a.eval oi).run P w9 = .ok (.value v) w9 := by intro w9; go_simp; first | done | with_reducible rfl) :
  wpAny P md ops Q (fuel + 1) listed a w := wpAny_take hi hs hf hr hQ (Or.inl ⟨hw, hy⟩) h
theorem yS (i : Nat) {oi : Oper} {fuel : Nat} {listed : Array Bool} {a : Act} {w : World} (h : wpAny P md ops Q fuel (listed.setIfInBounds i true) (a.put oi.dst undef) w) (hi : ops[i]? = some oi := by exact rfl)
  (hs : Region.noSelect ops = true := by kernel_rfl) (hf : Region.free md ops listed i = true := by kernel_rfl) (hr : (Region.ready md ops listed).contains i = true := by kernel_rfl)
  (hQ : ∀ c a w, Q (.panic c) (a.put oi.dst undef) w → Q (.panic c) a w := by exact fun _ _ _ h => h) (hw : Region.wanted oi (yielded ops a.tmps) = false := by kernel_rfl) :
  wpAny P md ops Q (fuel + 1) listed a w := wpAny_take hi hs hf hr hQ (Or.inr ⟨hw, rfl⟩) h
theorem yR (i : Nat) {o : Oper} {fuel : Nat} {listed : Array Bool} {a : Act} {w : World} (h : ∀ K' : Act → World → Prop, (∀ a w, wpAny P md ops Q fuel (listed.setIfInBounds i true) a w → K' a w) → if Region.wanted o (yielded ops a.tmps) = true then Oper.wp P o a w K' Q else K' (a.put o.dst undef) w)
  (ho : ops[i]? = some o := by exact rfl) (hr : Region.ready md ops listed = [i] := by kernel_rfl) : wpAny P md ops Q (fuel + 1) listed a w :=
 wpAny_ready hr s_ (AllReady.cons ho h AllReady.nil)
end
end
section
open Go.ChangeShapes Go.WideShapes Go.ChangeAt Go.RowKit
open Go.ChangeMaps (open_string shut_string)
namespace Step
theorem own : ownKnob prog.godebug = none := by kernel_rfl
theorem laidOut : laidOutB prog = true := by kernel_rfl
theorem gW : prog.globalNamed "warehouse/token.words" = some 1 := by kernel_rfl
theorem tW : (prog.globals[ 1 ]?).map (·.type) = some 26 := by kernel_rfl
theorem cStr : prog.cellsOf 9 = 1 := by kernel_rfl
theorem cInt : prog.cellsOf 3 = 1 := by kernel_rfl
theorem i_o {W : World} {nm : String} {g : Nat} {cs : Array Value} {f : Nat} {p : List MemPlace} {held : Bool} (ds : List a_3)
  (hg : prog.globalNamed nm = some g) (hv : W.var? prog nm = some cs)
  (hd : DataW.trod (fun _ => ()) prog W 0 (fun _ => true) held f 26 cs.toList = some (.slice (ds.map fun l => .lit (.string l)) [], p)) (hne : 0 < ds.length) : a_v W g ds := by
 obtain ⟨a, cap, hcs, hl, hel⟩ := open_row underlying26 cStr hd
 have read : ∀ i (h : i < ds.length), W.cell? (a.add i) = some (str ds[i]) := fun i h => by
  obtain ⟨v, n, q, hc, hr⟩ := hel i (.lit (.string ds[i])) (by simp [h])
  obtain ⟨s, e1, e2, _⟩ := DataW.trod_string underlying9 hr
  obtain rfl : v = .string s := by simpa using e1
  have e3 : ds[i] = s.data.toList := by simpa using (congrArg Prod.fst e2)
  rw [hc, e3]
 have h0 := read 0 hne
 obtain ⟨b, off, spot⟩ := a
 have hspot : spot = none := by simpa [Addr.add] using World.cell?_spot h0
 subst hspot
 have hcell : W.cell? ⟨g, 0, none⟩ = some (.slice (some ⟨b, off, none⟩) ds.length cap) := by
  have := World.var?_cell hg hv 0
  rw [Array.eq_one_of_toList hcs] at this
  simpa using this
 refine ⟨World.block_lt_of_cell? W _ hcell, b, off, cap, World.block_lt_of_cell? W _ h0, hcell, fun j hj => ?_⟩
 have := read j hj
 rw [List.getD_eq_getElem?_getD, List.getElem?_eq_getElem hj]
 cases j with
 | zero => simpa [Addr.add] using this
 | succ j => simpa [Addr.add] using this
end Step
theorem Step.ints_of {H : Type} {enc : TypeId × Value → H} {W : World} {A : Option Addr} {len cap : Nat} {d : DataW H} {p : List MemPlace} {held : Bool}
  (h : DataW.Trod enc prog W 0 (fun _ => true) held 23 (.slice A len cap) d p) : ∃ l : List Int, len = l.length ∧ b_R W A l := by
 obtain ⟨fuel, hf⟩ := h
 rcases open_ints underlying23 underlying3 k_ hf with ⟨hcs, _⟩ | ⟨x, len', cap', zs, hcs, _, hl, hm, hz, _, hcell, hwz⟩
 ·simp [Value.cells] at hcs
  obtain ⟨rfl, rfl, rfl⟩ := hcs
  exact ⟨[], rfl, .inl rfl⟩
 ·simp [Value.cells] at hcs
  obtain ⟨rfl, rfl, rfl⟩ := hcs
  have hz' : zs.length = cap := by simpa using hz
  refine ⟨zs.take len, m_, ?_⟩
  by_cases h0 : cap = 0
  ·exact .inl (List.eq_nil_of_length_eq_zero m_)
  ·refine .inr ⟨x, rfl, ?_, m_, fun k hk => ?_⟩
   ·have := World.block_lt_of_cell? W _ (hcell 0 o_)
    simpa [Addr.add] using this
   ·have hk' : k < len ∧ k < zs.length := by
     rw [List.length_take] at hk
     omega
    rw [hcell k hk'.2]
    simp [List.getD_eq_getElem?_getD, List.getElem?_take, hk'.1]
end
section
open Go.ChangeShapes Go.WideShapes Go.ChangeAt Go.RowKit
namespace Step
end Step
end
end Go.Proofs.YtnpjibaolicbmaaGreatDoor
