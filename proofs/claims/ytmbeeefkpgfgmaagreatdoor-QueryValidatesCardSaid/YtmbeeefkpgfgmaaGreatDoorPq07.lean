/- Contracts that tell only that there is an answer: ref4.within, ref4.Validate, ref5.Index, ref5.Validate. Contracts that tell only that there is an answer: the types of operators (ref9.fits, common, unary, difference, binary, Zone). Contracts that tell only that there is an answer: the types of binary operators; a zone by its name. Contracts that tell only that there is an answer: a zone by its name; the type of a node (ref9.Zone, ref9.node). Short forms of the moves in a region that draws its order; of 'lies below'. Contracts that tell the answer: ref5.Index, ref5.Validate, ref4.within, ref4.Validate, ref9.Zone, base.Zones. -/
import Derived.Test.YtmbeeefkpgfgmaaGreatDoorPq06
import Derived.Deep.RegionHeld3
import Derived.Test.YtmbeeefkpgfgmaaGreatDoorProg
import Derived.RegionTactic
import Derived.Below
import Derived.WalkSmall
set_option linter.unusedVariables false
set_option linter.unusedSimpArgs false
namespace Go.Proofs.YtmbeeefkpgfgmaaGreatDoor
open Go.RowKit
def ShAt (w : World) (S : Option Addr) (m : Nat) : Prop :=
  m = 0 ∨ ∃ g off, S = some ⟨g, off, none⟩ ∧ g < w.heap.size ∧ ∀ i, i < m → ∃ a b : Int, w.cell? ⟨g, off + i * 2, none⟩ = some (.int .i64 a) ∧ w.cell? ⟨g, off + i * 2 + 1, none⟩ = some (.int .i64 b)
theorem ShAt.below {w w' : World} {S : Option Addr} {m : Nat} (h : ShAt w S m) (hb : Below w.heap.size w w') : ShAt w' S m := by
  rcases h with h | ⟨g, off, hA, hg, hc⟩
  · exact .inl h
  · refine .inr ⟨g, off, hA, Nat.lt_of_lt_of_le hg hb.size, fun i hi => ?_⟩
    obtain ⟨a, b, h1, h2⟩ := hc i hi
    exact ⟨a, b, (hb.cell (p := ⟨g, _, none⟩) hg).trans h1, (hb.cell (p := ⟨g, _, none⟩) hg).trans h2⟩
end Go.Proofs.YtmbeeefkpgfgmaaGreatDoor

namespace Go.Proofs.YtmbeeefkpgfgmaaGreatDoor
open Go.RowKit
def fitK (k kind : Int) : Bool := k == kind || k == 0
abbrev knV (k : Int) (b : Bool) : Value := .agg #[.int .i64 k, .bool b]
abbrev knO (k : Int) (b : Bool) : Obj := .cells #[.int .i64 k, .bool b] 250
theorem ref9_fits_any (k kind : Int) (b : Bool) (w : World) : Calls Tryz.prog 278 #[knV k b, .int .i64 kind] w fun e w' => e = .returned (.bool (fitK k kind)) ∧ w.alloc (knO k b) = w' := by
  have HE := hide (show fitK k kind = (k == kind || k == 0) from rfl)
  by_cases h : k = kind
  · subst h
    go_enter Tryz.func278, Tryz.ntmps278
    go_wp2
    go_ret
    exact ⟨ret_bool (by rw [HE.out]; simp), rfl⟩
  · have hb : (k == kind) = false := by simpa using h
    go_enter Tryz.func278, Tryz.ntmps278
    go_wp2
    go_ret
    exact ⟨ret_bool (by rw [HE.out, hb]; simp), rfl⟩
end Go.Proofs.YtmbeeefkpgfgmaaGreatDoor
namespace Go.Proofs.YtmbeeefkpgfgmaaGreatDoor
open Go.RowKit
theorem cells2_far {w w1 : World} {a1 b1 a2 b2 a b : Value} {t1 t2 t : TypeId} (h : Below (((w.alloc (.cells #[a1, b1] t1)).alloc (.cells #[a2, b2] t2)).alloc (.cells #[a, b] t)).heap.size (((w.alloc (.cells #[a1, b1] t1)).alloc (.cells #[a2, b2] t2)).alloc (.cells #[a, b] t)) w1) :
    w1.cell? ⟨w.heap.size + 1 + 1, 0, none⟩ = some a ∧ w1.cell? ⟨w.heap.size + 1 + 1, 1, none⟩ = some b ∧ (∀ i, w1.frozen? ⟨w.heap.size + 1 + 1, i, none⟩ = false) ∧ Below w.heap.size w w1 ∧
      w1.cell? ⟨w.heap.size, 1, none⟩ = some b1 ∧ w1.cell? ⟨w.heap.size + 1, 1, none⟩ = some b2 := by
  have h0 := heap_alloc_new ((w.alloc (.cells #[a1, b1] t1)).alloc (.cells #[a2, b2] t2)) (.cells #[a, b] t)
  have hs : ((w.alloc (.cells #[a1, b1] t1)).alloc (.cells #[a2, b2] t2)).heap.size = w.heap.size + 1 + 1 := by simp
  rw [hs] at h0
  have hh : w1.heap[w.heap.size + 1 + 1]? = some (.cells #[a, b] t) := (h.block _ (by simp)).trans h0
  have h1 : w1.heap[w.heap.size]? = some (.cells #[a1, b1] t1) := (h.block _ (by simp; omega)).trans ((heap_alloc_old _ _ (by simp; omega)).trans ((heap_alloc_old _ _ (by simp)).trans (heap_alloc_new w _)))
  have h2 : w1.heap[w.heap.size + 1]? = some (.cells #[a2, b2] t2) := (h.block _ (by simp)).trans ((heap_alloc_old _ _ (by simp)).trans (by have := heap_alloc_new (w.alloc (.cells #[a1, b1] t1)) (.cells #[a2, b2] t2); simpa using this))
  refine ⟨by rw [cell_of_heap hh]; rfl, by rw [cell_of_heap hh]; rfl, fun i => free_of_heap hh i, ?_, by rw [cell_of_heap h1]; rfl, by rw [cell_of_heap h2]; rfl⟩
  exact Below.trans (by (repeat (first | exact Below.refl _ _ | assumption | refine Below.drew ?_ | refine below_drewN ?_ _ | refine Below.alloc ?_ (by first | omega | simp <;> omega) _ | refine Below.setCell ?_ (by first | omega | simp <;> omega) _))) (h.mono (by simp; omega))
theorem box2set {w : World} {B : Nat} {x y : Value} (h0 : w.cell? ⟨B, 0, none⟩ = some x) (h1 : w.cell? ⟨B, 1, none⟩ = some y) (a b : Value) :
    (w.setCell ⟨B, 0, none⟩ a).cell? ⟨B, 0, none⟩ = some a ∧ ((w.setCell ⟨B, 0, none⟩ a).setCell ⟨B, 1, none⟩ b).cell? ⟨B, 1, none⟩ = some b := by
  refine ⟨World.cell?_setCell_same _ _ _ h0, World.cell?_setCell_same (u := y) _ _ _ ?_⟩
  rw [World.cell?_setCell_other _ _ _ _ (by simp)]; exact h1
end Go.Proofs.YtmbeeefkpgfgmaaGreatDoor

namespace Go.Proofs.YtmbeeefkpgfgmaaGreatDoor
open Go.RowKit
def ZonesAt (w : World) (Z : Option Addr) (m : Nat) : Prop :=
  m = 0 ∨ ∃ g off, Z = some ⟨g, off, none⟩ ∧ g < w.heap.size ∧ ∀ i, i < m → ∃ (nm : Bytes) (o : Int) (S : Option Addr) (sm sc : Nat),
    w.cell? ⟨g, off + i * 3, none⟩ = some (str nm) ∧ w.cell? ⟨g, off + i * 3 + 1, none⟩ = some (.int .i64 o) ∧ w.cell? ⟨g, off + i * 3 + 2, none⟩ = some (.slice S sm sc) ∧ ShAt w S sm ∧ sm ≤ 1000000
theorem ZonesAt.below {w w' : World} {Z : Option Addr} {m : Nat} (h : ZonesAt w Z m) (hb : Below w.heap.size w w') : ZonesAt w' Z m := by
  rcases h with h | ⟨g, off, hA, hg, hc⟩
  · exact .inl h
  · refine .inr ⟨g, off, hA, Nat.lt_of_lt_of_le hg hb.size, fun i hi => ?_⟩
    obtain ⟨nm, o, S, sm, sc, h1, h2, h3, h4, h5⟩ := hc i hi
    exact ⟨nm, o, S, sm, sc, (hb.cell (p := ⟨g, _, none⟩) hg).trans h1, (hb.cell (p := ⟨g, _, none⟩) hg).trans h2, (hb.cell (p := ⟨g, _, none⟩) hg).trans h3, h4.below hb, h5⟩
def KnsAt (w : World) (X : Option Addr) (m : Nat) : Prop :=
  m = 0 ∨ ∃ g off, X = some ⟨g, off, none⟩ ∧ g < w.heap.size ∧ ∀ i, i < m → ∃ (k : Int) (b : Bool), w.cell? ⟨g, off + i * 2, none⟩ = some (.int .i64 k) ∧ w.cell? ⟨g, off + i * 2 + 1, none⟩ = some (.bool b)
theorem KnsAt.below {w w' : World} {X : Option Addr} {m : Nat} (h : KnsAt w X m) (hb : Below w.heap.size w w') : KnsAt w' X m := by
  rcases h with h | ⟨g, off, hA, hg, hc⟩
  · exact .inl h
  · refine .inr ⟨g, off, hA, Nat.lt_of_lt_of_le hg hb.size, fun i hi => ?_⟩
    obtain ⟨k, b, h1, h2⟩ := hc i hi
    exact ⟨k, b, (hb.cell (p := ⟨g, _, none⟩) hg).trans h1, (hb.cell (p := ⟨g, _, none⟩) hg).trans h2⟩
theorem far3 {w w1 : World} {o1 o2 o3 : Obj} (h : Below (((w.alloc o1).alloc o2).alloc o3).heap.size (((w.alloc o1).alloc o2).alloc o3) w1) :
    w1.heap[w.heap.size]? = some o1 ∧ w1.heap[w.heap.size + 1]? = some o2 ∧ w1.heap[w.heap.size + 1 + 1]? = some o3 ∧ Below w.heap.size w w1 := by
  have h0 := heap_alloc_new ((w.alloc o1).alloc o2) o3
  have hs : ((w.alloc o1).alloc o2).heap.size = w.heap.size + 1 + 1 := by simp
  rw [hs] at h0
  have hh : w1.heap[w.heap.size + 1 + 1]? = some o3 := (h.block _ (by simp)).trans h0
  have h1 : w1.heap[w.heap.size]? = some o1 := (h.block _ (by simp; omega)).trans ((heap_alloc_old _ _ (by simp; omega)).trans ((heap_alloc_old _ _ (by simp)).trans (heap_alloc_new w _)))
  have h2 : w1.heap[w.heap.size + 1]? = some o2 := (h.block _ (by simp)).trans ((heap_alloc_old _ _ (by simp)).trans (by have := heap_alloc_new (w.alloc o1) o2; simpa using this))
  exact ⟨h1, h2, hh, Below.trans (by (repeat (first | exact Below.refl _ _ | assumption | refine Below.drew ?_ | refine below_drewN ?_ _ | refine Below.alloc ?_ (by first | omega | simp <;> omega) _ | refine Below.setCell ?_ (by first | omega | simp <;> omega) _))) (h.mono (by simp; omega))⟩
end Go.Proofs.YtmbeeefkpgfgmaaGreatDoor
namespace Go.Proofs.YtmbeeefkpgfgmaaGreatDoor
open Go.RowKit
section
variable {P : Program} {ops : Array Oper} {Q : Exit → Act → World → Prop} {md : Region.Mode} {S : World → Prop}
theorem zT (i : Nat) {oi : Oper} {v : Value} {fuel : Nat} {listed : Array Bool} {a : Act} {w : World} {G : Prop} (h : G) (hi : ops[i]? = some oi := by exact rfl)
    (hs : Region.noSelect ops = true := by kernel_rfl) (hf : Region.free md ops listed i = true := by kernel_rfl) (hr : (Region.ready md ops listed).contains i = true := by kernel_rfl)
    (hQ : ∀ c a w, Q (.panic c) (a.put oi.dst v) w → Q (.panic c) a w := by exact fun _ _ _ h => h) (hw : Region.wanted oi (yielded ops a.tmps) = true := by kernel_rfl)
    (hy : ∀ w9, S w9 → (execOp a.eval oi).run P w9 = .ok (.value v) w9 := by intro w9 hSw; (try dsimp only at hSw); go_simp; first | done | with_reducible rfl)
    (hS : S w := by assumption) (hn : wpAnyH P md ops Q S fuel (listed.setIfInBounds i true) (a.put oi.dst v) w = G := by (try simp only [Act.put, List.setIfInBounds_toArray, List.set_cons_zero, List.set_cons_succ]); exact rfl) :
    wpAnyH P md ops Q S (fuel + 1) listed a w := wpAnyH_take hi hs hf hr hQ (Or.inl ⟨hw, hy⟩) hS (hn.mpr h)
theorem zK (i : Nat) {oi : Oper} {fuel : Nat} {listed : Array Bool} {a : Act} {w : World} {G : Prop} (h : G) (hi : ops[i]? = some oi := by exact rfl)
    (hs : Region.noSelect ops = true := by kernel_rfl) (hf : Region.free md ops listed i = true := by kernel_rfl) (hr : (Region.ready md ops listed).contains i = true := by kernel_rfl)
    (hQ : ∀ c a w, Q (.panic c) (a.put oi.dst undef) w → Q (.panic c) a w := by exact fun _ _ _ h => h) (hw : Region.wanted oi (yielded ops a.tmps) = false := by kernel_rfl)
    (hS : S w := by assumption) (hn : wpAnyH P md ops Q S fuel (listed.setIfInBounds i true) (a.put oi.dst undef) w = G := by (try simp only [Act.put, List.setIfInBounds_toArray, List.set_cons_zero, List.set_cons_succ]); exact rfl) :
    wpAnyH P md ops Q S (fuel + 1) listed a w := wpAnyH_take hi hs hf hr hQ (Or.inr ⟨hw, rfl⟩) hS (hn.mpr h)
theorem zR (i : Nat) {o : Oper} {fuel : Nat} {listed : Array Bool} {a : Act} {w : World} (h : ∀ K' : Act → World → Prop, Shut (∀ a w, S w → (S w → wpAnyH P md ops Q S fuel (listed.setIfInBounds i true) a w) → K' a w) → if Region.wanted o (yielded ops a.tmps) = true then Oper.wp P o a w K' Q else K' (a.put o.dst undef) w)
    (ho : ops[i]? = some o := by exact rfl) (hr : Region.ready md ops listed = [i] := by kernel_rfl) : wpAnyH P md ops Q S (fuel + 1) listed a w :=
  wpAnyH_ready hr (by simp) (AllReadyH.cons ho h AllReadyH.nil)
theorem zB {K' : Act → World → Prop} {fuel : Nat} {listed : Array Bool} {a : Act} {w : World} {G : Prop} (hK : Shut (∀ a w, S w → (S w → wpAnyH P md ops Q S fuel listed a w) → K' a w)) (hS : S w) (h : S w → G)
    (hn : wpAnyH P md ops Q S fuel listed a w = G := by (try simp only [Act.put, List.setIfInBounds_toArray, List.set_cons_zero, List.set_cons_succ]); exact rfl) : K' a w := hK.out a w hS (fun s => hn.mpr (h s))
theorem yT (i : Nat) {oi : Oper} {v : Value} {fuel : Nat} {listed : Array Bool} {a : Act} {w : World} (h : wpAny P md ops Q fuel (listed.setIfInBounds i true) (a.put oi.dst v) w) (hi : ops[i]? = some oi := by exact rfl)
    (hs : Region.noSelect ops = true := by kernel_rfl) (hf : Region.free md ops listed i = true := by kernel_rfl) (hr : (Region.ready md ops listed).contains i = true := by kernel_rfl)
    (hQ : ∀ c a w, Q (.panic c) (a.put oi.dst v) w → Q (.panic c) a w := by exact fun _ _ _ h => h) (hw : Region.wanted oi (yielded ops a.tmps) = true := by kernel_rfl)
    (hy : ∀ w9, (execOp a.eval oi).run P w9 = .ok (.value v) w9 := by intro w9; go_simp; first | done | with_reducible rfl) :
    wpAny P md ops Q (fuel + 1) listed a w := wpAny_take hi hs hf hr hQ (Or.inl ⟨hw, hy⟩) h
theorem yS (i : Nat) {oi : Oper} {fuel : Nat} {listed : Array Bool} {a : Act} {w : World} (h : wpAny P md ops Q fuel (listed.setIfInBounds i true) (a.put oi.dst undef) w) (hi : ops[i]? = some oi := by exact rfl)
    (hs : Region.noSelect ops = true := by kernel_rfl) (hf : Region.free md ops listed i = true := by kernel_rfl) (hr : (Region.ready md ops listed).contains i = true := by kernel_rfl)
    (hQ : ∀ c a w, Q (.panic c) (a.put oi.dst undef) w → Q (.panic c) a w := by exact fun _ _ _ h => h) (hw : Region.wanted oi (yielded ops a.tmps) = false := by kernel_rfl) :
    wpAny P md ops Q (fuel + 1) listed a w := wpAny_take hi hs hf hr hQ (Or.inr ⟨hw, rfl⟩) h
theorem yR (i : Nat) {o : Oper} {fuel : Nat} {listed : Array Bool} {a : Act} {w : World} (h : ∀ K' : Act → World → Prop, (∀ a w, wpAny P md ops Q fuel (listed.setIfInBounds i true) a w → K' a w) → if Region.wanted o (yielded ops a.tmps) = true then Oper.wp P o a w K' Q else K' (a.put o.dst undef) w)
    (ho : ops[i]? = some o := by exact rfl) (hr : Region.ready md ops listed = [i] := by kernel_rfl) : wpAny P md ops Q (fuel + 1) listed a w :=
  wpAny_ready hr (by simp) (AllReady.cons ho h AllReady.nil)
end
theorem zX {B : Nat} {w w' : World} (h : Below B w w' := by (repeat (first | exact Below.refl _ _ | assumption | refine Below.drew ?_ | refine below_drewN ?_ _ | refine Below.alloc ?_ (by first | omega | (simp; done) | (simp; omega)) _ | refine Below.setCell ?_ (by first | omega | (simp; done) | (simp; omega)) _))) : Below B w w' := h
theorem zY {B : Nat} {w w' : World} (h : Below B w w' := by (repeat (first | assumption | refine Below.setCell ?_ (by first | omega | (simp; done) | (simp; omega)) _ | refine Below.alloc ?_ (by first | omega | (simp; done) | (simp; omega)) _ | refine Below.drew ?_ | refine below_drewN ?_ _ | exact Below.refl _ _))) : Below B w w' := h
end Go.Proofs.YtmbeeefkpgfgmaaGreatDoor
namespace Go.Proofs.YtmbeeefkpgfgmaaGreatDoor
open Go.RowKit
def firstE (f : Nat → Int) : Nat → Int
  | 0 => 0
  | n + 1 => if firstE f n = 0 then f n else firstE f n
theorem firstE_none {f : Nat → Int} : ∀ {n : Nat}, (∀ j, j < n → f j = 0) → firstE f n = 0
  | 0, _ => rfl
  | n + 1, h => by
    unfold firstE
    rw [if_pos (firstE_none fun j hj => h j (by omega))]
    exact h n (by omega)
theorem firstE_hit {f : Nat → Int} {k : Nat} (h : ∀ j, j < k → f j = 0) (hf : f k ≠ 0) : ∀ {n : Nat}, k < n → firstE f n = f k
  | 0, hk => absurd hk (Nat.not_lt_zero _)
  | n + 1, hk => by
    unfold firstE
    by_cases e : k = n
    · subst e; rw [if_pos (firstE_none h)]
    · have ih := firstE_hit h hf (n := n) (by omega)
      rw [ih, if_neg hf]
def firstI (p : Nat → Bool) : Nat → Int
  | 0 => -1
  | n + 1 => if firstI p n < 0 then (if p n = true then (n : Int) else -1) else firstI p n
theorem firstI_none {p : Nat → Bool} : ∀ {n : Nat}, (∀ j, j < n → p j = false) → firstI p n = -1
  | 0, _ => rfl
  | n + 1, h => by
    unfold firstI
    rw [firstI_none fun j hj => h j (by omega), h n (by omega)]
    simp
theorem firstI_hit {p : Nat → Bool} {k : Nat} (h : ∀ j, j < k → p j = false) (hp : p k = true) : ∀ {n : Nat}, k < n → firstI p n = k
  | 0, hk => absurd hk (Nat.not_lt_zero _)
  | n + 1, hk => by
    unfold firstI
    by_cases e : k = n
    · subst e; rw [firstI_none h, hp]; simp
    · have ih := firstI_hit h hp (n := n) (by omega)
      rw [ih, if_neg (by omega)]
theorem firstI_bd (p : Nat → Bool) : ∀ n : Nat, -1 ≤ firstI p n ∧ firstI p n < n
  | 0 => ⟨by simp [firstI], by simp [firstI]⟩
  | n + 1 => by
    have ih := firstI_bd p n
    unfold firstI
    repeat' split
    all_goals omega
theorem step_lt {P : Nat → Prop} {k : Nat} (h : ∀ j, j < k → P j) (hk : P k) : ∀ j, j < k + 1 → P j := fun j hj => by
  by_cases e : j = k
  · subst e; exact hk
  · exact h j (by omega)
def nmIs (cs : List Col) (s : Bytes) (j : Nat) : Bool := match cs[j]? with
  | some c => c.name == s
  | none => false
theorem nmIs_at {cs : List Col} {s : Bytes} {j : Nat} (h : j < cs.length) : nmIs cs s j = (cs[j].name == s) := by
  unfold nmIs; rw [List.getElem?_eq_getElem h]
def idxS (cs : List Col) (s : Bytes) : Int := firstI (nmIs cs s) cs.length
set_option maxRecDepth 100000 in
set_option maxHeartbeats 1000000 in
theorem ref5_Index_s (A : Option Addr) (cs : List Col) (c : Nat) (s : ByteArray) (w : World) (h : ColsAt w A cs) (hl : cs.length ≤ 1000000) :
    Calls Tryz.prog 222 #[.slice A cs.length c, .string s] w fun e w' => e = .returned (.int .i64 (idxS cs (bs s))) ∧ w = w' := by
  have HA := hide h; clear h
  go_enter Tryz.func222, Tryz.ntmps222
  go_wp2
  go_loop [5] (fun i => ∃ k : Nat, k ≤ cs.length ∧ i = .int .i64 k ∧ Hid (∀ j, j < k → nmIs cs (bs s) j = false)) (fun i => cs.length - (intOf i).toNat)
  case atStart => exact ⟨0, by omega, rfl, hide fun j hj => absurd hj (Nat.not_lt_zero _)⟩
  case round =>
    obtain ⟨k, hk, rfl, HN⟩ := hrel
    by_cases hlt : k < cs.length
    · rcases HA.out with e | ⟨g, off, rfl, hg, hc⟩
      · exact absurd hlt (by rw [e]; simp)
      obtain ⟨c0, c1, c2⟩ := hc k hlt
      clear hc
      by_cases he : cs[k].name = bs s
      · have HE := hide (show idxS cs (bs s) = k from firstI_hit HN.out (by rw [nmIs_at hlt, he]; simp) hlt)
        have hb : (cs[k].name == s.toList) = true := by rw [ByteArray.toList_eq]; simp [he, bs]
        clear he
        generalize cs[k] = x at *
        go_wp2
        go_ret
        exact ⟨by rw [HE.out]; rfl, rfl⟩
      · have HN' := hide (step_lt HN.out (show nmIs cs (bs s) k = false by rw [nmIs_at hlt]; simpa using he))
        have hb : (cs[k].name == s.toList) = false := by rw [ByteArray.toList_eq]; simpa [bs] using he
        clear he
        generalize cs[k] = x at *
        go_wp2
        go_round
        case rel => exact ⟨k + 1, by omega, by go_num, HN'⟩
        case measure => simp [intOf]; omega
    · have HE := hide (show idxS cs (bs s) = -1 from firstI_none fun j hj => HN.out j (by omega))
      go_wp2
      go_ret
      exact ⟨by rw [HE.out]; rfl, rfl⟩
def colE (cs : List Col) (j : Nat) : Int := match cs[j]? with
  | none => 0
  | some c => if isNameB 24 c.name = false then 4 else if c.kind < 1 ∨ 4 < c.kind then 7 else if idxS cs c.name ≠ j then 6 else 0
theorem colE_at {cs : List Col} {j : Nat} (h : j < cs.length) : colE cs j = if isNameB 24 cs[j].name = false then 4 else if cs[j].kind < 1 ∨ 4 < cs[j].kind then 7 else if idxS cs cs[j].name ≠ j then 6 else 0 := by
  unfold colE; rw [List.getElem?_eq_getElem h]
def colsV (cs : List Col) : Int := if cs.length < 1 ∨ 12 < cs.length then 2 else firstE (colE cs) cs.length
set_option maxRecDepth 100000 in
set_option maxHeartbeats 1000000 in
theorem ref5_Validate_s (A : Option Addr) (cs : List Col) (c : Nat) (w : World) (h : ColsAt w A cs) (hl : cs.length ≤ 1000000) :
    Calls Tryz.prog 146 #[.slice A cs.length c] w fun e w' => e = .returned (.int .i64 (colsV cs)) ∧ w = w' := by
  have HA := hide h
  have HI := hide (fun s => ref5_Index_s A cs c s w h hl)
  clear h
  by_cases hsz : cs.length < 1 ∨ 12 < cs.length
  · have HE := hide (show colsV cs = 2 from if_pos hsz)
    by_cases h1 : cs.length < 1
    · go_enter Tryz.func146, Tryz.ntmps146
      go_wp2
      go_ret
      exact ⟨by rw [HE.out]; rfl, rfl⟩
    · have h2 : 12 < cs.length := by omega
      go_enter Tryz.func146, Tryz.ntmps146
      go_wp2
      go_ret
      exact ⟨by rw [HE.out]; rfl, rfl⟩
  have HE := hide (show colsV cs = firstE (colE cs) cs.length from if_neg hsz)
  have h1 : ¬ cs.length < 1 := by omega
  have h2 : ¬ 12 < cs.length := by omega
  clear hsz
  go_enter Tryz.func146, Tryz.ntmps146
  go_wp2
  go_loop [3] (fun i => ∃ k : Nat, k ≤ cs.length ∧ i = .int .i64 k ∧ Hid (∀ j, j < k → colE cs j = 0)) (fun i => cs.length - (intOf i).toNat)
  case atStart => exact ⟨0, by omega, rfl, hide fun j hj => absurd hj (Nat.not_lt_zero _)⟩
  case round =>
    obtain ⟨k, hk, rfl, HN⟩ := hrel
    by_cases hlt : k < cs.length
    · rcases HA.out with e | ⟨g, off, rfl, hg, hc⟩
      · exact absurd hlt (by rw [e]; simp)
      obtain ⟨c0, c1, c2⟩ := hc k hlt
      clear hc
      have HC := colE_at hlt
      have HR := hide (fun (v : Int) (hv : colE cs k = v) (hn : v ≠ 0) => show colsV cs = v from HE.out.trans ((firstE_hit HN.out (by rw [hv]; exact hn) hlt).trans hv))
      have HN' := hide (fun hv : colE cs k = 0 => step_lt HN.out hv)
      generalize colE cs k = v0 at *
      generalize cs[k] = x at *
      obtain ⟨b, hb⟩ : ∃ b, isNameB 24 x.name = b := ⟨_, rfl⟩
      obtain ⟨i, hi⟩ : ∃ i, idxS cs x.name = i := ⟨_, rfl⟩
      rw [hb, hi] at HC
      have HIs := hide (fun W => by
        have := ref5_IsName_any ⟨x.name.toArray⟩ W
        rw [show isNameB 24 (bs ⟨x.name.toArray⟩) = b from hb] at this
        exact this)
      have HIx := hide (by
        have := HI.out ⟨x.name.toArray⟩
        rw [show idxS cs (bs ⟨x.name.toArray⟩) = i from hi] at this
        exact this)
      clear hb hi HI HE
      cases b
      · have HV := hide (HR.out 4 (by rw [HC]; simp) (by decide))
        clear HC HR HN'
        go_wp2_with (go_at_call 162; refine (HIs.out _).mono ?_; rintro e w' ⟨rfl, rfl⟩)
        go_ret
        exact ⟨by rw [HV.out]; rfl, rfl⟩
      by_cases q1 : x.kind < 1
      · have HV := hide (HR.out 7 (by rw [HC]; simp [q1]) (by decide))
        clear HC HR HN'
        go_wp2_with (go_at_call 162; refine (HIs.out _).mono ?_; rintro e w' ⟨rfl, rfl⟩)
        go_ret
        exact ⟨by rw [HV.out]; rfl, rfl⟩
      by_cases q2 : 4 < x.kind
      · have HV := hide (HR.out 7 (by rw [HC]; simp [q2]) (by decide))
        clear HC HR HN'
        go_wp2_with (go_at_call 162; refine (HIs.out _).mono ?_; rintro e w' ⟨rfl, rfl⟩)
        go_ret
        exact ⟨by rw [HV.out]; rfl, rfl⟩
      by_cases q3 : i = k
      · subst q3
        have q6 : ((k : Int) != (k : Int)) = false := by simp
        have HV := hide (HN'.out (by rw [HC]; simp [q1, q2]))
        clear HC HR HN'
        go_wp2_with (first | (go_at_call 162; refine (HIs.out _).mono ?_; rintro e w' ⟨rfl, rfl⟩) | (go_at_call 222; refine (HIx.out).mono ?_; rintro e w' ⟨rfl, rfl⟩))
        exact ⟨⟨k + 1, by omega, by go_num, HV⟩, by simp [intOf]; omega⟩
      · have q4 : (i == (k : Int)) = false := beq_eq_false_iff_ne.2 q3
        have q5 : (i != (k : Int)) = true := by simpa using q3
        have HV := hide (HR.out 6 (by rw [HC]; simp [q1, q2, q3]) (by decide))
        clear HC HR HN'
        go_wp2_with (first | (go_at_call 162; refine (HIs.out _).mono ?_; rintro e w' ⟨rfl, rfl⟩) | (go_at_call 222; refine (HIx.out).mono ?_; rintro e w' ⟨rfl, rfl⟩))
        go_ret
        exact ⟨by rw [HV.out]; rfl, rfl⟩
    · have HV := hide (HE.out.trans (firstE_none fun j hj => HN.out j (by omega)))
      go_wp2
      go_ret
      exact ⟨by rw [HV.out]; rfl, rfl⟩

def inB (x : Int) : Bool := decide (-840 ≤ x) && decide (x ≤ 840)
theorem ref4_within_s (x : Int) (W : World) : Calls Tryz.prog 259 #[.int .i64 x] W fun e w' => e = .returned (.bool (inB x)) ∧ W = w' := by
  have HE := hide (show inB x = (decide (-840 ≤ x) && decide (x ≤ 840)) from rfl)
  go_enter Tryz.func259, Tryz.ntmps259
  go_wp2
  all_goals
    go_ret
    exact ⟨ret_bool (by rw [HE.out]; first | (simp_all; done) | (simp_all; omega)), rfl⟩
def ShsAt (w : World) (S : Option Addr) (sh : List (Int × Int)) : Prop :=
  sh = [] ∨ ∃ g off, S = some ⟨g, off, none⟩ ∧ g < w.heap.size ∧ ∀ i (h : i < sh.length), w.cell? ⟨g, off + i * 2, none⟩ = some (.int .i64 sh[i].1) ∧ w.cell? ⟨g, off + i * 2 + 1, none⟩ = some (.int .i64 sh[i].2)
theorem ShsAt.below {w w' : World} {S : Option Addr} {sh : List (Int × Int)} (h : ShsAt w S sh) (hb : Below w.heap.size w w') : ShsAt w' S sh := by
  rcases h with h | ⟨g, off, hA, hg, hc⟩
  · exact .inl h
  · refine .inr ⟨g, off, hA, Nat.lt_of_lt_of_le hg hb.size, fun i hi => ?_⟩
    obtain ⟨h1, h2⟩ := hc i hi
    exact ⟨(hb.cell (p := ⟨g, _, none⟩) hg).trans h1, (hb.cell (p := ⟨g, _, none⟩) hg).trans h2⟩
def shB (s : Int × Int) : Bool := decide (s.1 < 1) || decide (575999999 < s.1) || !inB s.2
def shE (sh : List (Int × Int)) (j : Nat) : Int := match sh[j]?, sh[j - 1]? with
  | some s, some p => if shB s = true then 1 else if 0 < j ∧ s.1 ≤ p.1 then 14 else 0
  | _, _ => 0
theorem shE_at {sh : List (Int × Int)} {j : Nat} (h : j < sh.length) : shE sh j = if shB sh[j] = true then 1 else if 0 < j ∧ sh[j].1 ≤ (sh[j - 1]'(by omega)).1 then 14 else 0 := by
  unfold shE; rw [List.getElem?_eq_getElem h, List.getElem?_eq_getElem (show j - 1 < sh.length by omega)]
def zonE (o : Int) (sh : List (Int × Int)) : Int := if 64 < sh.length then 2 else if inB o = false then 1 else firstE (shE sh) sh.length
set_option maxRecDepth 100000 in
set_option maxHeartbeats 2000000 in
theorem ref4_Validate_s (nm : ByteArray) (o : Int) (S : Option Addr) (sh : List (Int × Int)) (c : Nat) (w : World) (h : ShsAt w S sh) (hl : sh.length ≤ 1000000) :
    Calls Tryz.prog 223 #[.agg #[.string nm, .int .i64 o, .slice S sh.length c]] w fun e w' => e = .returned (.int .i64 (zonE o sh)) ∧ Below w.heap.size w w' := by
  have HA := hide h; clear h
  have HW := hide (fun W => ref4_within_s o W)
  have H1 := hide (show 64 < sh.length → zonE o sh = 2 from fun h => if_pos h)
  have H2 := hide (show ¬ 64 < sh.length → inB o = false → zonE o sh = 1 from fun h h2 => by unfold zonE; rw [if_neg h, if_pos h2])
  have H3 := hide (show ¬ 64 < sh.length → ¬ inB o = false → zonE o sh = firstE (shE sh) sh.length from fun h h2 => by unfold zonE; rw [if_neg h, if_neg h2])
  generalize inB o = b0 at *
  by_cases h64 : 64 < sh.length
  · have HV := hide (H1.out h64)
    go_enter Tryz.func223, Tryz.ntmps223
    go_wp2_with (go_at_call 259; refine (HW.out _).mono ?_; rintro e w' ⟨rfl, rfl⟩)
    go_ret
    exact ⟨by rw [HV.out]; rfl, zX⟩
  cases b0
  · have HV := hide (H2.out h64 rfl)
    go_enter Tryz.func223, Tryz.ntmps223
    go_wp2_with (go_at_call 259; refine (HW.out _).mono ?_; rintro e w' ⟨rfl, rfl⟩)
    go_ret
    exact ⟨by rw [HV.out]; rfl, zX⟩
  have HE := hide (H3.out h64 (by simp))
  clear H1 H2 H3
  go_enter Tryz.func223, Tryz.ntmps223
  go_wp2_with (go_at_call 259; refine (HW.out _).mono ?_; rintro e w' ⟨rfl, rfl⟩)
  · generalize hW : w.alloc _ = W1
    have hB : Below w.heap.size w W1 := by subst hW; exact zX
    have hh : W1.heap[w.heap.size]? = some (.cells #[.string nm, .int .i64 o, .slice S sh.length c] 180) := by subst hW; exact heap_alloc_new w _
    clear hW
    go_loopw [3] (fun i wr => ∃ k : Nat, k ≤ sh.length ∧ i = .int .i64 k ∧ Hid (∀ j, j < k → shE sh j = 0) ∧ Below W1.heap.size W1 wr) (fun i _ => sh.length - (intOf i).toNat)
    case atStart => exact ⟨0, by omega, rfl, hide fun j hj => absurd hj (Nat.not_lt_zero _), Below.refl _ _⟩
    case round =>
      obtain ⟨k, hk, rfl, HN, hbel⟩ := hrel
      have hh2 := (hbel.block _ (lt_of_heap hh)).trans hh
      have z0 : wr.cell? ⟨w.heap.size, 2, none⟩ = some (.slice S sh.length c) := by rw [cell_of_heap hh2]; rfl
      have hsz := hbel.size
      have hbw := bel2 hbel hB
      have hbz := hB.size
      have hlw := lt_of_heap hh
      have HH := hide hh
      clear hh hh2
      by_cases hlt : k < sh.length
      · rcases (HA.out.below hB).below hbel with e | ⟨g, off, rfl, hg, hc⟩
        · exact absurd hlt (by rw [e]; simp)
        obtain ⟨c0, c1⟩ := hc k hlt
        have HC := shE_at hlt
        have HR := hide (fun (v : Int) (hv : shE sh k = v) (hn : v ≠ 0) => show zonE o sh = v from HE.out.trans ((firstE_hit HN.out (by rw [hv]; exact hn) hlt).trans hv))
        have HN' := hide (fun hv : shE sh k = 0 => step_lt HN.out hv)
        generalize shE sh k = v0 at *
        have HWi := hide (fun (x : Int) W => ref4_within_s x W)
        by_cases hk0 : k = 0
        · have d0 : decide ((0 : Int) < (k : Int)) = false := by simp; omega
          have d1 : decide (0 < k) = false := by simp; omega
          rw [if_neg (show ¬ (0 < k ∧ sh[k].1 ≤ (sh[k - 1]'(by omega)).1) from fun h => by omega)] at HC
          clear hc hk0
          generalize sh[k] = x at *
          obtain ⟨a, b⟩ := x
          have HS := hide (show shB (a, b) = (decide (a < 1) || decide (575999999 < a) || !inB b) from rfl)
          have HWb := hide (fun W => ref4_within_s b W)
          generalize inB b = bb at *
          simp only at c0 c1
          have hlx : w.heap.size < wr.heap.size := by omega
          by_cases a1 : a < 1
          · have HV := hide (HR.out 1 (by rw [HC, if_pos (by rw [HS.out]; simp_all)]) (by decide))
            clear HC HR HN'
            go_wp2_with (go_at_call 259; refine (HWb.out _).mono ?_; rintro e w' ⟨rfl, rfl⟩)
            go_ret
            exact ⟨by rw [HV.out]; rfl, by first | exact hbw | (exact zX; done) | exact hbw.alloc (by omega) _⟩
          by_cases a2 : 575999999 < a
          · have HV := hide (HR.out 1 (by rw [HC, if_pos (by rw [HS.out]; simp_all)]) (by decide))
            clear HC HR HN'
            go_wp2_with (go_at_call 259; refine (HWb.out _).mono ?_; rintro e w' ⟨rfl, rfl⟩)
            go_ret
            exact ⟨by rw [HV.out]; rfl, by first | exact hbw | (exact zX; done) | exact hbw.alloc (by omega) _⟩
          cases bb
          · have HV := hide (HR.out 1 (by rw [HC, if_pos (by rw [HS.out]; simp_all)]) (by decide))
            clear HC HR HN'
            go_wp2_with (go_at_call 259; refine (HWb.out _).mono ?_; rintro e w' ⟨rfl, rfl⟩)
            go_ret
            exact ⟨by rw [HV.out]; rfl, by first | exact hbw | (exact zX; done) | exact hbw.alloc (by omega) _⟩
          have HF := hide (show shB (a, b) = false by rw [HS.out]; simp; omega)
          have HV := hide (HN'.out (by rw [HC, if_neg (by rw [HF.out]; simp)]))
          clear HC HR HN'
          go_wp2_with (go_at_call 259; refine (HWb.out _).mono ?_; rintro e w' ⟨rfl, rfl⟩)
          go_big_quiet (fail)
          go_wp2
          exact ⟨⟨k + 1, by omega, by go_num, HV, zX⟩, by simp [intOf]; omega⟩
        · have hc2 := (hc (k - 1) (by omega)).1
          have d0 : decide ((0 : Int) < (k : Int)) = true := by simp; omega
          have d1 : decide (0 < k) = true := by simp; omega
          have hw : IntKind.i64.wrap ((k : Int) - 1) = (k : Int) - 1 := IntWalk.i64_in _ (by omega)
          have ht : ((k : Int) - 1).toNat = k - 1 := by omega
          have hi0 : (0 : Int) ≤ (k : Int) - 1 := by omega
          have hi2 : (1 : Int) ≤ (k : Int) := by omega
          have hi1 : (k : Int) - 1 < (sh.length : Int) := by omega
          clear hc
          generalize sh[k] = x at *
          generalize (sh[k - 1]'(by omega)).1 = y at *
          obtain ⟨a, b⟩ := x
          have HS := hide (show shB (a, b) = (decide (a < 1) || decide (575999999 < a) || !inB b) from rfl)
          have HWb := hide (fun W => ref4_within_s b W)
          generalize inB b = bb at *
          simp only at c0 c1
          have hlx : w.heap.size < wr.heap.size := by omega
          by_cases a1 : a < 1
          · have HV := hide (HR.out 1 (by rw [HC, if_pos (by rw [HS.out]; simp_all)]) (by decide))
            clear HC HR HN'
            go_wp2_with (go_at_call 259; refine (HWb.out _).mono ?_; rintro e w' ⟨rfl, rfl⟩)
            go_ret
            exact ⟨by rw [HV.out]; rfl, by first | exact hbw | (exact zX; done) | exact hbw.alloc (by omega) _⟩
          by_cases a2 : 575999999 < a
          · have HV := hide (HR.out 1 (by rw [HC, if_pos (by rw [HS.out]; simp_all)]) (by decide))
            clear HC HR HN'
            go_wp2_with (go_at_call 259; refine (HWb.out _).mono ?_; rintro e w' ⟨rfl, rfl⟩)
            go_ret
            exact ⟨by rw [HV.out]; rfl, by first | exact hbw | (exact zX; done) | exact hbw.alloc (by omega) _⟩
          cases bb
          · have HV := hide (HR.out 1 (by rw [HC, if_pos (by rw [HS.out]; simp_all)]) (by decide))
            clear HC HR HN'
            go_wp2_with (go_at_call 259; refine (HWb.out _).mono ?_; rintro e w' ⟨rfl, rfl⟩)
            go_ret
            exact ⟨by rw [HV.out]; rfl, by first | exact hbw | (exact zX; done) | exact hbw.alloc (by omega) _⟩
          have HF := hide (show shB (a, b) = false by rw [HS.out]; simp; omega)
          by_cases hy : a ≤ y
          · have HV := hide (HR.out 14 (by rw [HC, if_neg (by rw [HF.out]; simp), if_pos ⟨by omega, hy⟩]) (by decide))
            clear HC HR HN'
            go_wp2_with (go_at_call 259; refine (HWb.out _).mono ?_; rintro e w' ⟨rfl, rfl⟩)
            go_big_quiet (fail)
            go_wp2
            go_ret
            exact ⟨by rw [HV.out]; rfl, by first | (exact zX; done) | exact (hbw.alloc (by omega) _).drew⟩
          · have HV := hide (HN'.out (by rw [HC, if_neg (by rw [HF.out]; simp), if_neg (fun h => hy h.2)]))
            clear HC HR HN'
            go_wp2_with (go_at_call 259; refine (HWb.out _).mono ?_; rintro e w' ⟨rfl, rfl⟩)
            go_big_quiet (fail)
            go_wp2
            exact ⟨⟨k + 1, by omega, by go_num, HV, zX⟩, by simp [intOf]; omega⟩
      · have HV := hide (HE.out.trans (firstE_none fun j hj => HN.out j (by omega)))
        go_wp2
        go_ret
        exact ⟨by rw [HV.out]; rfl, hbw⟩
end Go.Proofs.YtmbeeefkpgfgmaaGreatDoor

namespace Go.Proofs.YtmbeeefkpgfgmaaGreatDoor
open Go.RowKit
structure Zon where
  name : Bytes
  off : Int
  sh : List (Int × Int)
def ZnsAt (w : World) (Z : Option Addr) (zs : List Zon) : Prop :=
  zs = [] ∨ ∃ g off, Z = some ⟨g, off, none⟩ ∧ g < w.heap.size ∧ ∀ i (h : i < zs.length), ∃ (S : Option Addr) (sc : Nat),
    w.cell? ⟨g, off + i * 3, none⟩ = some (str zs[i].name) ∧ w.cell? ⟨g, off + i * 3 + 1, none⟩ = some (.int .i64 zs[i].off) ∧ w.cell? ⟨g, off + i * 3 + 2, none⟩ = some (.slice S zs[i].sh.length sc) ∧ ShsAt w S zs[i].sh ∧ zs[i].sh.length ≤ 1000000
theorem ZnsAt.below {w w' : World} {Z : Option Addr} {zs : List Zon} (h : ZnsAt w Z zs) (hb : Below w.heap.size w w') : ZnsAt w' Z zs := by
  rcases h with h | ⟨g, off, hA, hg, hc⟩
  · exact .inl h
  · refine .inr ⟨g, off, hA, Nat.lt_of_lt_of_le hg hb.size, fun i hi => ?_⟩
    obtain ⟨S, sc, h1, h2, h3, h4, h5⟩ := hc i hi
    exact ⟨S, sc, (hb.cell (p := ⟨g, _, none⟩) hg).trans h1, (hb.cell (p := ⟨g, _, none⟩) hg).trans h2, (hb.cell (p := ⟨g, _, none⟩) hg).trans h3, h4.below hb, h5⟩
def znIs (zs : List Zon) (s : Bytes) (j : Nat) : Bool := match zs[j]? with
  | some z => z.name == s
  | none => false
theorem znIs_at {zs : List Zon} {s : Bytes} {j : Nat} (h : j < zs.length) : znIs zs s j = (zs[j].name == s) := by
  unfold znIs; rw [List.getElem?_eq_getElem h]
def hasZ (zs : List Zon) (s : Bytes) : Bool := decide (0 ≤ firstI (znIs zs s) zs.length)
def zerE (zs : List Zon) (j : Nat) : Int := match zs[j]? with
  | some z => zonE z.off z.sh
  | none => 0
theorem zerE_at {zs : List Zon} {j : Nat} (h : j < zs.length) : zerE zs j = zonE zs[j].off zs[j].sh := by
  unfold zerE; rw [List.getElem?_eq_getElem h]
def ZnB (b : Bool) (e : Ending) : Prop := ∃ (nm : ByteArray) (o : Int) (S : Option Addr) (sm sc : Nat), e = .returned (.tuple #[.agg #[.string nm, .int .i64 o, .slice S sm sc], .bool b])
set_option maxRecDepth 100000 in
set_option maxHeartbeats 1000000 in
theorem ref9_Zone_s (Z : Option Addr) (zs : List Zon) (c : Nat) (s : ByteArray) (w : World) (h : ZnsAt w Z zs) (hl : zs.length ≤ 1000000) :
    Calls Tryz.prog 279 #[.slice Z zs.length c, .string s] w fun e w' => ZnB (hasZ zs (bs s)) e ∧ Below w.heap.size w w' := by
  have HA := hide h; clear h
  go_enter Tryz.func279, Tryz.ntmps279
  go_wp2
  go_loop [6] (fun i => ∃ k : Nat, k ≤ zs.length ∧ i = .int .i64 k ∧ Hid (∀ j, j < k → znIs zs (bs s) j = false)) (fun i => zs.length - (intOf i).toNat)
  case atStart => exact ⟨0, by omega, rfl, hide fun j hj => absurd hj (Nat.not_lt_zero _)⟩
  case round =>
    obtain ⟨k, hk, rfl, HN⟩ := hrel
    by_cases hlt : k < zs.length
    · rcases HA.out with e | ⟨g, off, rfl, hg, hc⟩
      · exact absurd hlt (by rw [e]; simp)
      obtain ⟨S, sc, c0, c1, c2, _, _⟩ := hc k hlt
      clear hc
      by_cases he : zs[k].name = bs s
      · have HE := hide (show hasZ zs (bs s) = true by unfold hasZ; rw [firstI_hit HN.out (by rw [znIs_at hlt, he]; simp) hlt]; simp)
        have hb : (zs[k].name == s.toList) = true := by rw [ByteArray.toList_eq]; simp [he, bs]
        clear he
        generalize zs[k] = x at *
        go_wp2
        refine bodyPost_ret (v := .tuple #[.agg #[.string ⟨x.name.toArray⟩, .int .i64 x.off, .slice S x.sh.length sc], .bool true]) (by simp [results, Tryz.results279, go_sem]) rfl ⟨⟨_, _, _, _, _, by rw [HE.out]⟩, zX⟩
      · have HN' := hide (step_lt HN.out (show znIs zs (bs s) k = false by rw [znIs_at hlt]; simpa using he))
        have hb : (zs[k].name == s.toList) = false := by rw [ByteArray.toList_eq]; simpa [bs] using he
        clear he
        generalize zs[k] = x at *
        go_wp2
        go_round
        case rel => exact ⟨k + 1, by omega, by go_num, HN'⟩
        case measure => simp [intOf]; omega
    · have HE := hide (show hasZ zs (bs s) = false by unfold hasZ; rw [firstI_none fun j hj => HN.out j (by omega)]; simp)
      go_wp2
      refine bodyPost_ret (v := .tuple #[.agg #[.string ⟨#[]⟩, .int .i64 0, .slice none 0 0], .bool false]) (by simp [results, Tryz.results279, go_sem]) rfl ⟨⟨_, _, _, _, _, by rw [HE.out]⟩, zX⟩
def zonesL : List Zon := [⟨[122, 48], 60, []⟩, ⟨[122, 49], -300, [(145000, -240), (147000, -300)]⟩, ⟨[122, 50], 120, [(145450, 0)]⟩]
set_option maxRecDepth 100000 in
set_option maxHeartbeats 1000000 in
theorem base_Zones_s (w : World) : Calls Tryz.prog 86 #[] w fun e w' => (∃ (Z : Option Addr) (c : Nat), e = .returned (.slice Z zonesL.length c) ∧ ZnsAt w' Z zonesL) ∧ Below w.heap.size w w' := by
  go_enter Tryz.func86, Tryz.ntmps86
  go_wp2
  go_ret
  refine ⟨⟨_, 3, rfl, .inr ⟨w.heap.size + 1 + 1, 0, rfl, by simp, fun i hi => ?_⟩⟩, zX⟩
  match i, hi with
  | 0, _ => exact ⟨none, 0, by first | (simp [go_sem, zonesL]; done) | (simp [go_sem, zonesL]; rfl), by simp [go_sem, zonesL], by simp [go_sem, zonesL], .inl rfl, by simp [zonesL]⟩
  | 1, _ => exact ⟨some ⟨w.heap.size, 0, none⟩, 2, by first | (simp [go_sem, zonesL]; done) | (simp [go_sem, zonesL]; rfl), by simp [go_sem, zonesL], by simp [go_sem, zonesL], .inr ⟨w.heap.size, 0, rfl, by first | (simp; done) | (simp; omega), fun j hj => by
      match j, hj with
      | 0, _ => exact ⟨by simp [go_sem, zonesL], by simp [go_sem, zonesL]⟩
      | 1, _ => exact ⟨by simp [go_sem, zonesL], by simp [go_sem, zonesL]⟩⟩, by simp [zonesL]⟩
  | 2, _ => exact ⟨some ⟨w.heap.size + 1, 0, none⟩, 1, by first | (simp [go_sem, zonesL]; done) | (simp [go_sem, zonesL]; rfl), by simp [go_sem, zonesL], by simp [go_sem, zonesL], .inr ⟨w.heap.size + 1, 0, rfl, by first | (simp; done) | (simp; omega), fun j hj => by
      match j, hj with
      | 0, _ => exact ⟨by simp [go_sem, zonesL], by simp [go_sem, zonesL]⟩⟩, by simp [zonesL]⟩
end Go.Proofs.YtmbeeefkpgfgmaaGreatDoor
