/- Contracts that tell the answer: the type of a node of any kind but if (ref9.node). The type of a node that is an if (ref9.node), told: false false, false true, true true. -/
import Derived.Test.YtmbeeefkpgfgmaaGreatDoorPq08
import Derived.Test.YtmbeeefkpgfgmaaGreatDoorPq07
import Derived.RegionTactic
import Derived.ChangeAlike
import Derived.BigRegion
import Derived.BigGuardPart
set_option linter.unusedVariables false
set_option linter.unusedSimpArgs false
namespace Go.Proofs.YtmbeeefkpgfgmaaGreatDoor
open Go.RowKit
def KnvAt (w : World) (X : Option Addr) (xs : List Kn) : Prop :=
  xs = [] ∨ ∃ g off, X = some ⟨g, off, none⟩ ∧ g < w.heap.size ∧ ∀ i (h : i < xs.length), w.cell? ⟨g, off + i * 2, none⟩ = some (.int .i64 xs[i].1) ∧ w.cell? ⟨g, off + i * 2 + 1, none⟩ = some (.bool xs[i].2)
theorem KnvAt.below {w w' : World} {X : Option Addr} {xs : List Kn} (h : KnvAt w X xs) (hb : Below w.heap.size w w') : KnvAt w' X xs := by
  rcases h with h | ⟨g, off, hA, hg, hc⟩
  · exact .inl h
  · refine .inr ⟨g, off, hA, Nat.lt_of_lt_of_le hg hb.size, fun i hi => ?_⟩
    obtain ⟨h1, h2⟩ := hc i hi
    exact ⟨(hb.cell (p := ⟨g, _, none⟩) hg).trans h1, (hb.cell (p := ⟨g, _, none⟩) hg).trans h2⟩
def okN (r : Kn × Bool) : Kn × Int := if r.2 = true then (r.1, 0) else ((0, false), 7)
def ifS (x y z : Kn) : Kn × Bool := (((comS y z).1, y.2 || z.2), (comS y z).2 && fitK x.1 1)
def nodeS (cs : List Col) (zs : List Zon) (op k : Int) (nm : Bytes) (xs : List Kn) : Kn × Int :=
  if op = 0 then ((k, k == 0), 0)
  else if op = 1 then (if idxS cs nm < 0 then ((0, false), 5) else match cs[(idxS cs nm).toNat]? with
    | some c => ((c.kind, c.null), 0)
    | none => ((0, false), 5))
  else if op = 21 then ((0, false), 5)
  else match xs with
    | [x] => if op = 20 then (if hasZ zs nm = true then okN (unS 20 x) else ((0, false), 5)) else okN (unS op x)
    | [x, y] => okN (bnS op x y)
    | [x, y, z] => okN (ifS x y z)
    | _ => ((0, false), 7)
def ndR (r : Kn × Int) : Ending := .returned (.tuple #[.agg #[.int .i64 r.1.1, .bool r.1.2], .int .i64 r.2])
set_option maxRecDepth 100000 in
set_option maxHeartbeats 2000000 in
theorem node_const_s (cs : List Col) (zs : List Zon) (xs : List Kn) (k m a : Int) (x nm : ByteArray) (X C Z : Option Addr) (xm xc cm cc zm zc : Nat) (w : World) :
    Calls Tryz.prog 260 #[ndV 0 k m x nm a, .slice X xm xc, .slice C cm cc, .slice Z zm zc] w fun e w' => e = ndR (nodeS cs zs 0 k (bs nm) xs) ∧ Below w.heap.size w w' := by
  have HR := hide (show nodeS cs zs 0 k (bs nm) xs = ((k, k == 0), 0) from rfl)
  go_enter Tryz.func260, Tryz.ntmps260
  go_wp2
  all_goals
    refine bodyPost_ret (v := .tuple #[.agg #[.int .i64 k, .bool (k == 0)], .int .i64 0]) (by simp [results, Tryz.results260, go_sem]) rfl ⟨by rw [HR.out]; rfl, zX⟩
set_option maxRecDepth 100000 in
set_option maxHeartbeats 2000000 in
theorem node_call_s (cs : List Col) (zs : List Zon) (xs : List Kn) (k m a : Int) (x nm : ByteArray) (X C Z : Option Addr) (xm xc cm cc zm zc : Nat) (w : World) :
    Calls Tryz.prog 260 #[ndV 21 k m x nm a, .slice X xm xc, .slice C cm cc, .slice Z zm zc] w fun e w' => e = ndR (nodeS cs zs 21 k (bs nm) xs) ∧ Below w.heap.size w w' := by
  have HR := hide (show nodeS cs zs 21 k (bs nm) xs = ((0, false), 5) from rfl)
  go_enter Tryz.func260, Tryz.ntmps260
  go_wp2
  all_goals
    refine bodyPost_ret (v := .tuple #[.agg #[.int .i64 0, .bool false], .int .i64 5]) (by simp [results, Tryz.results260, go_sem]) rfl ⟨by rw [HR.out]; rfl, zX⟩
set_option maxRecDepth 100000 in
set_option maxHeartbeats 2000000 in
theorem node_col_s (zs : List Zon) (xs : List Kn) (k m a : Int) (x nm : ByteArray) (X C Z : Option Addr) (cs : List Col) (xm xc cc zm zc : Nat) (w : World) (hC : ColsAt w C cs) (hl : cs.length ≤ 1000000) :
    Calls Tryz.prog 260 #[ndV 1 k m x nm a, .slice X xm xc, .slice C cs.length cc, .slice Z zm zc] w fun e w' => e = ndR (nodeS cs zs 1 k (bs nm) xs) ∧ Below w.heap.size w w' := by
  have HC := hide hC
  have HI := hide (fun W (hb : Below w.heap.size w W) => ref5_Index_s C cs cc nm W (hC.below hb) hl)
  have h0 : nodeS cs zs 1 k (bs nm) xs = ((if idxS cs (bs nm) < 0 then ((0, false), 5) else match cs[(idxS cs (bs nm)).toNat]? with
    | some c => ((c.kind, c.null), 0)
    | none => ((0, false), 5)) : Kn × Int) := rfl
  obtain ⟨b1, b2⟩ := firstI_bd (nmIs cs (bs nm)) cs.length
  rw [show firstI (nmIs cs (bs nm)) cs.length = idxS cs (bs nm) from rfl] at b1 b2
  generalize idxS cs (bs nm) = i at *
  clear hC
  by_cases hi : i < 0
  · have HR := hide (h0.trans (if_pos hi))
    clear h0
    go_enter Tryz.func260, Tryz.ntmps260
    go_wp2_with (go_at_call 222; refine (HI.out _ zX).mono ?_; rintro e w' ⟨rfl, rfl⟩)
    refine bodyPost_ret (v := .tuple #[.agg #[.int .i64 0, .bool false], .int .i64 5]) (by simp [results, Tryz.results260, go_sem]) rfl ⟨by rw [HR.out]; rfl, zX⟩
  · obtain ⟨n, rfl⟩ : ∃ n : Nat, i = n := ⟨i.toNat, by omega⟩
    have hn : n < cs.length := by omega
    rw [if_neg hi, show ((n : Int)).toNat = n from by omega, List.getElem?_eq_getElem hn] at h0
    rcases HC.out with e | ⟨g, off, rfl, hg, hc⟩
    · rw [e] at hn; simp at hn
    obtain ⟨c0, c1, c2⟩ := hc n hn
    clear hc
    generalize cs[n] = y at *
    have HR := hide (show nodeS cs zs 1 k (bs nm) xs = ((y.kind, y.null), 0) from h0)
    clear h0
    have L : ∀ (o1 o2 o3 : Obj) (p : Nat), (((w.alloc o1).alloc o2).alloc o3).cell? ⟨g, p, none⟩ = w.cell? ⟨g, p, none⟩ := fun o1 o2 o3 p => (show Below w.heap.size w (((w.alloc o1).alloc o2).alloc o3) from zX).cell (p := ⟨g, p, none⟩) hg
    have d1 := fun o1 o2 o3 => (L o1 o2 o3 _).trans c1
    have d2 := fun o1 o2 o3 => (L o1 o2 o3 _).trans c2
    clear L c0 c1 c2
    go_enter Tryz.func260, Tryz.ntmps260
    go_wp2_with (go_at_call 222; refine (HI.out _ zX).mono ?_; rintro e w' ⟨rfl, rfl⟩)
    go_region
    all_goals
      go_wp2
      refine bodyPost_ret (v := .tuple #[.agg #[.int .i64 y.kind, .bool y.null], .int .i64 0]) (by simp [results, Tryz.results260, go_sem]) rfl ⟨by rw [HR.out]; rfl, zX⟩
set_option maxRecDepth 100000 in
set_option maxHeartbeats 2000000 in
theorem node_un_s (cs : List Col) (zs : List Zon) (x0 : Kn) (op k m a : Int) (x nm : ByteArray) (X C Z : Option Addr) (xc cm cc zm zc : Nat) (w : World) (hX : KnvAt w X [x0]) (h0 : (op == 0) = false) (h1 : (op == 1) = false) (h21 : (op == 21) = false) (h17 : (op == 17) = false) (h20 : (op == 20) = false) :
    Calls Tryz.prog 260 #[ndV op k m x nm a, .slice X 1 xc, .slice C cm cc, .slice Z zm zc] w fun e w' => e = ndR (nodeS cs zs op k (bs nm) [x0]) ∧ Below w.heap.size w w' := by
  rcases hX with e | ⟨g, off, rfl, hg, hc⟩
  · cases e
  obtain ⟨c0, c1⟩ := hc 0 (by simp)
  simp only [Nat.zero_mul, Nat.add_zero, List.getElem_cons_zero] at c0 c1
  clear hc
  obtain ⟨k0, b0⟩ := x0
  have hS : nodeS cs zs op k (bs nm) [(k0, b0)] = okN (unS op (k0, b0)) := by
    unfold nodeS
    rw [if_neg (by simpa using h0), if_neg (by simpa using h1), if_neg (by simpa using h21)]
    show (if op = 20 then (if hasZ zs (bs nm) = true then okN (unS 20 (k0, b0)) else (((0, false), 5) : Kn × Int)) else okN (unS op (k0, b0))) = _
    exact if_neg (by simpa using h20)
  have HU := hide (fun W => ref9_unary_s op k0 b0 W)
  generalize unS op (k0, b0) = r at *
  obtain ⟨⟨kr, br⟩, cr⟩ := r
  simp only at c0 c1
  have HR := hide hS
  clear hS
  have L : ∀ (o1 o2 o3 : Obj) (p : Nat), (((w.alloc o1).alloc o2).alloc o3).cell? ⟨g, p, none⟩ = w.cell? ⟨g, p, none⟩ := fun o1 o2 o3 p => (show Below w.heap.size w (((w.alloc o1).alloc o2).alloc o3) from zX).cell (p := ⟨g, p, none⟩) hg
  have d1 := fun o1 o2 o3 => (L o1 o2 o3 _).trans c0
  have d2 := fun o1 o2 o3 => (L o1 o2 o3 _).trans c1
  clear L c0 c1
  go_enter Tryz.func260, Tryz.ntmps260
  go_wp2
  go_region_with (go_at_call 280; refine (HU.out _).mono ?_; rintro e w1 ⟨rfl, hb1⟩; obtain ⟨_, h2, h3, hb2⟩ := far3 (w := w) (o1 := ndBox op k m x nm a) (o2 := knO 0 false) (o3 := knO 0 false) (w1 := w1) ⟨hb1.os, hb1.tape, hb1.output, hb1.size, hb1.block⟩; obtain ⟨⟨x0, x1, xf⟩, ⟨y0, y1, yf⟩, s0, s1, u0, u1⟩ := two_boxes h2 h3; clear hb1 h2 h3)
  all_goals
    cases cr
    · go_wp2
      refine bodyPost_ret (v := .tuple #[.agg #[.int .i64 0, .bool false], .int .i64 7]) (by simp [results, Tryz.results260, go_sem, s0, s1, u0, u1]) rfl ⟨by rw [HR.out]; rfl, zX⟩
    · go_wp2
      refine bodyPost_ret (v := .tuple #[.agg #[.int .i64 kr, .bool br], .int .i64 0]) (by simp [results, Tryz.results260, go_sem, s0, s1, u0, u1]) rfl ⟨by rw [HR.out]; rfl, zX⟩
set_option maxRecDepth 100000 in
set_option maxHeartbeats 8000000 in
theorem node_bin_s (cs : List Col) (zs : List Zon) (x0 y0 : Kn) (op k m a : Int) (x nm : ByteArray) (X C Z : Option Addr) (xc cm cc zm zc : Nat) (w : World) (hX : KnvAt w X [x0, y0]) (h0 : (op == 0) = false) (h1 : (op == 1) = false) (h21 : (op == 21) = false) (h17 : (op == 17) = false) (h20 : (op == 20) = false) :
    Calls Tryz.prog 260 #[ndV op k m x nm a, .slice X 2 xc, .slice C cm cc, .slice Z zm zc] w fun e w' => e = ndR (nodeS cs zs op k (bs nm) [x0, y0]) ∧ Below w.heap.size w w' := by
  rcases hX with e | ⟨g, off, rfl, hg, hc⟩
  · cases e
  obtain ⟨c0, c1⟩ := hc 0 (by simp)
  simp only [Nat.zero_mul, Nat.add_zero, List.getElem_cons_zero] at c0 c1
  obtain ⟨c2, c3⟩ := hc 1 (by simp)
  simp only [Nat.one_mul, List.getElem_cons_succ, List.getElem_cons_zero] at c2 c3
  clear hc
  obtain ⟨k0, b0⟩ := x0
  obtain ⟨k1, b1⟩ := y0
  have hS : nodeS cs zs op k (bs nm) [(k0, b0), (k1, b1)] = okN (bnS op (k0, b0) (k1, b1)) := by
    unfold nodeS
    rw [if_neg (by simpa using h0), if_neg (by simpa using h1), if_neg (by simpa using h21)]
  have HU := hide (fun W => ref9_binary_s op k0 k1 b0 b1 W)
  generalize bnS op (k0, b0) (k1, b1) = r at *
  obtain ⟨⟨kr, br⟩, cr⟩ := r
  simp only at c0 c1 c2 c3
  have HR := hide hS
  clear hS
  have L : ∀ (o1 o2 o3 : Obj) (p : Nat), (((w.alloc o1).alloc o2).alloc o3).cell? ⟨g, p, none⟩ = w.cell? ⟨g, p, none⟩ := fun o1 o2 o3 p => (show Below w.heap.size w (((w.alloc o1).alloc o2).alloc o3) from zX).cell (p := ⟨g, p, none⟩) hg
  have d1 := fun o1 o2 o3 => (L o1 o2 o3 _).trans c0
  have d2 := fun o1 o2 o3 => (L o1 o2 o3 _).trans c1
  have d3 := fun o1 o2 o3 => (L o1 o2 o3 _).trans c2
  have d4 := fun o1 o2 o3 => (L o1 o2 o3 _).trans c3
  clear L c0 c1 c2 c3
  go_enter Tryz.func260, Tryz.ntmps260
  go_wp2
  go_region_with (go_at_call 281; refine (HU.out _).mono ?_; rintro e w1 ⟨rfl, hb1⟩; obtain ⟨_, h2, h3, hb2⟩ := far3 (w := w) (o1 := ndBox op k m x nm a) (o2 := knO 0 false) (o3 := knO 0 false) (w1 := w1) ⟨hb1.os, hb1.tape, hb1.output, hb1.size, hb1.block⟩; obtain ⟨⟨x0, x1, xf⟩, ⟨y0, y1, yf⟩, s0, s1, u0, u1⟩ := two_boxes h2 h3; clear hb1 h2 h3)
  all_goals
    cases cr
    · go_wp2
      refine bodyPost_ret (v := .tuple #[.agg #[.int .i64 0, .bool false], .int .i64 7]) (by simp [results, Tryz.results260, go_sem, s0, s1, u0, u1]) rfl ⟨by rw [HR.out]; rfl, zX⟩
    · go_wp2
      refine bodyPost_ret (v := .tuple #[.agg #[.int .i64 kr, .bool br], .int .i64 0]) (by simp [results, Tryz.results260, go_sem, s0, s1, u0, u1]) rfl ⟨by rw [HR.out]; rfl, zX⟩
set_option maxRecDepth 100000 in
set_option maxHeartbeats 4000000 in
theorem node_day_s (cs : List Col) (zs : List Zon) (y0 : Kn) (k m a : Int) (x nm : ByteArray) (X C Z : Option Addr) (xc cm cc zc : Nat) (w : World) (hX : KnvAt w X [y0]) (hZ : ZnsAt w Z zs) (hz : zs.length ≤ 1000000) :
    Calls Tryz.prog 260 #[ndV 20 k m x nm a, .slice X 1 xc, .slice C cm cc, .slice Z zs.length zc] w fun e w' => e = ndR (nodeS cs zs 20 k (bs nm) [y0]) ∧ Below w.heap.size w w' := by
  have HX := hide hX
  have HZ := hide (fun W (hb : Below w.heap.size w W) => ref9_Zone_s Z zs zc nm W (hZ.below hb) hz)
  clear hX hZ
  obtain ⟨k0, b0⟩ := y0
  have hS : nodeS cs zs 20 k (bs nm) [(k0, b0)] = if hasZ zs (bs nm) = true then okN (unS 20 (k0, b0)) else ((0, false), 5) := rfl
  have HU := hide (fun W => ref9_unary_s 20 k0 b0 W)
  generalize unS 20 (k0, b0) = r at *
  obtain ⟨⟨kr, br⟩, cr⟩ := r
  generalize hasZ zs (bs nm) = zb at *
  have HR := hide hS
  clear hS
  go_enter Tryz.func260, Tryz.ntmps260
  go_wp2_with fail
  refine (HZ.out _ zX).mono ?_
  rintro e w1 ⟨⟨znm, zo, zS, zsm, zsc, rfl⟩, hb1⟩
  obtain ⟨g1, h2, h3, hb2⟩ := far3 (w := w) (o1 := ndBox 20 k m x nm a) (o2 := knO 0 false) (o3 := knO 0 false) (w1 := w1) ⟨hb1.os, hb1.tape, hb1.output, hb1.size, hb1.block⟩
  have hlt := lt_of_heap h3
  have l0 : w.heap.size < w1.heap.size := by omega
  have l1 : w.heap.size + 1 < w1.heap.size := by omega
  have G1 : ∀ o, (w1.alloc o).heap[w.heap.size]? = some (ndBox 20 k m x nm a) := fun o => (heap_alloc_old _ _ (by omega)).trans g1
  have G2 : ∀ o, (w1.alloc o).heap[w.heap.size + 1]? = some (knO 0 false) := fun o => (heap_alloc_old _ _ (by omega)).trans h2
  have G3 : ∀ o, (w1.alloc o).heap[w.heap.size + 1 + 1]? = some (knO 0 false) := fun o => (heap_alloc_old _ _ (by omega)).trans h3
  have T := fun o => two_boxes (w1 := w1.alloc o) (G2 o) (G3 o)
  have x0 := fun o => (T o).1.1
  have x1 := fun o => (T o).1.2.1
  have xf := fun o => (T o).1.2.2
  have y0 := fun o => (T o).2.1.1
  have y1 := fun o => (T o).2.1.2.1
  have yf := fun o => (T o).2.1.2.2
  obtain ⟨⟨p0, p1, pf⟩, ⟨q0, q1, qf⟩, r0, r1, v0, v1⟩ := two_boxes h2 h3
  have s0 := fun o => (T o).2.2.1
  have s1 := fun o => (T o).2.2.2.1
  have u0 := fun o => (T o).2.2.2.2.1
  have u1 := fun o => (T o).2.2.2.2.2
  have n0 : ∀ o, (w1.alloc o).cell? ⟨w.heap.size, 0, none⟩ = some (.int .i64 20) := fun o => by rw [cell_of_heap (G1 o)]; rfl
  have n1 : w1.cell? ⟨w.heap.size, 0, none⟩ = some (.int .i64 20) := by rw [cell_of_heap g1]; rfl
  have z1 : ∀ o a b, (((w1.setCell ⟨w.heap.size + 1, 0, none⟩ a).setCell ⟨w.heap.size + 1, 1, none⟩ b).alloc o).cell? ⟨w.heap.size + 1, 1, none⟩ = some b := fun o a b => ((show Below w1.heap.size ((w1.setCell ⟨w.heap.size + 1, 0, none⟩ a).setCell ⟨w.heap.size + 1, 1, none⟩ b) _ from zX).cell (p := ⟨w.heap.size + 1, 1, none⟩) l1).trans (box2set p0 p1 a b).2
  have z0 : ∀ o a b, (((w1.setCell ⟨w.heap.size + 1, 0, none⟩ a).setCell ⟨w.heap.size + 1, 1, none⟩ b).alloc o).cell? ⟨w.heap.size + 1, 0, none⟩ = some a := fun o a b => ((show Below w1.heap.size ((w1.setCell ⟨w.heap.size + 1, 0, none⟩ a).setCell ⟨w.heap.size + 1, 1, none⟩ b) _ from zX).cell (p := ⟨w.heap.size + 1, 0, none⟩) l1).trans ((World.cell?_setCell_other _ _ _ _ (by simp)).trans (box2set p0 p1 a b).1)
  have hb3 : ∀ o, Below w.heap.size w (w1.alloc o) := fun o => hb2.trans zX
  clear T g1 h2 h3 hb1
  cases zb
  · go_wp2
    all_goals
      refine bodyPost_ret (v := .tuple #[.agg #[.int .i64 0, .bool false], .int .i64 5]) (by first | (simp [results, Tryz.results260, go_sem, z0, z1, s0, s1, u0, u1]; done) | (simp [results, Tryz.results260, go_sem, z0, z1, s0, s1, u0, u1]; rfl)) rfl ⟨by rw [HR.out]; rfl, zX⟩
  · rcases HX.out with e | ⟨g, off, rfl, hg, hc⟩
    · cases e
    obtain ⟨c0, c1⟩ := hc 0 (by simp)
    simp only [Nat.zero_mul, Nat.add_zero, List.getElem_cons_zero] at c0 c1
    have e1 := (hb2.cell (p := ⟨g, _, none⟩) hg).trans c0
    have e2 := (hb2.cell (p := ⟨g, _, none⟩) hg).trans c1
    have hgw : g < w1.heap.size := by omega
    have d1 := fun o => ((hb3 o).cell (p := ⟨g, _, none⟩) hg).trans c0
    have d2 := fun o => ((hb3 o).cell (p := ⟨g, _, none⟩) hg).trans c1
    clear hc c0 c1
    go_wp2
    go_region_with (go_at_call 280; refine (HU.out _).mono ?_; rintro e w2 ⟨rfl, hb4⟩; have hb6 : Below (w1.alloc (.cells #[.string znm, .int .i64 zo, .slice zS zsm zsc] 180)).heap.size (w1.alloc (.cells #[.string znm, .int .i64 zo, .slice zS zsm zsc] 180)) w2 := ⟨hb4.os, hb4.tape, hb4.output, hb4.size, hb4.block⟩; have h2 := (hb6.block (w.heap.size + 1) (by simp; omega)).trans (G2 _); have h3 := (hb6.block (w.heap.size + 1 + 1) (by simp; omega)).trans (G3 _); have hb5 := (hb3 _).trans (hb6.mono (by simp; omega)); clear p0 p1 pf q0 q1 qf r0 r1 v0 v1 s0 s1 u0 u1; obtain ⟨⟨p0, p1, pf⟩, ⟨q0, q1, qf⟩, s0, s1, u0, u1⟩ := two_boxes h2 h3; clear hb4 hb6 h2 h3)
    all_goals
      cases cr
      · go_wp2
        refine bodyPost_ret (v := .tuple #[.agg #[.int .i64 0, .bool false], .int .i64 7]) (by first | (simp [results, Tryz.results260, go_sem, s0, s1, u0, u1]; done) | (simp [results, Tryz.results260, go_sem, s0, s1, u0, u1]; rfl)) rfl ⟨by rw [HR.out]; rfl, zX⟩
      · go_wp2
        refine bodyPost_ret (v := .tuple #[.agg #[.int .i64 kr, .bool br], .int .i64 0]) (by first | (simp [results, Tryz.results260, go_sem, s0, s1, u0, u1]; done) | (simp [results, Tryz.results260, go_sem, s0, s1, u0, u1]; rfl)) rfl ⟨by rw [HR.out]; rfl, zX⟩
def IfAtS (C B : Bool) : Prop := ∀ (cs : List Col) (zs : List Zon) (k m a : Int) (x nm : ByteArray) (g off : Nat) (Cp Z : Option Addr) (xc cm cc zm zc : Nat) (w : World) (k0 k1 k2 : Int) (b0 b2 : Bool), g < w.heap.size → (comS (k1, B) (k2, b2)).2 = C →
    w.cell? ⟨g, off, none⟩ = some (.int .i64 k0) → w.cell? ⟨g, off + 1, none⟩ = some (.bool b0) → w.cell? ⟨g, off + 2, none⟩ = some (.int .i64 k1) → w.cell? ⟨g, off + 2 + 1, none⟩ = some (.bool B) → w.cell? ⟨g, off + 4, none⟩ = some (.int .i64 k2) → w.cell? ⟨g, off + 4 + 1, none⟩ = some (.bool b2) →
    Calls Tryz.prog 260 #[ndV 17 k m x nm a, .slice (some ⟨g, off, none⟩) 3 xc, .slice Cp cm cc, .slice Z zm zc] w fun e w' => e = ndR (nodeS cs zs 17 k (bs nm) [(k0, b0), (k1, B), (k2, b2)]) ∧ Below w.heap.size w w'
end Go.Proofs.YtmbeeefkpgfgmaaGreatDoor
namespace Go.Proofs.YtmbeeefkpgfgmaaGreatDoor
open Go.RowKit
set_option maxRecDepth 100000 in
set_option maxHeartbeats 16000000 in
theorem if_ff_s : IfAtS false false := by
  intro cs zs k m a x nm g off Cp Z xc cm cc zm zc w k0 k1 k2 b0 b2 hg hcm c0 c1 c2 c3 c4 c5
  have HU := hide (fun W => ref9_common_s k1 k2 false b2 W)
  have HF := hide (fun (b : Bool) W => ref9_fits_any k0 1 b W)
  obtain ⟨kr, hkr⟩ : ∃ kr, comS (k1, false) (k2, b2) = (kr, false) := ⟨_, Prod.ext rfl hcm⟩
  have hR : nodeS cs zs 17 k (bs nm) [(k0, b0), (k1, false), (k2, b2)] = okN ((kr, false || b2), false && fitK k0 1) := by
    show okN (((comS (k1, false) (k2, b2)).1, false || b2), (comS (k1, false) (k2, b2)).2 && fitK k0 1) = _
    rw [hkr]
  rw [hkr] at HU
  clear hcm hkr
  generalize fitK k0 1 = f at *
  have HR := hide hR
  clear hR
  have L : ∀ (o1 o2 o3 : Obj) (p : Nat), (((w.alloc o1).alloc o2).alloc o3).cell? ⟨g, p, none⟩ = w.cell? ⟨g, p, none⟩ := fun o1 o2 o3 p => (show Below w.heap.size w (((w.alloc o1).alloc o2).alloc o3) from zX).cell (p := ⟨g, p, none⟩) hg
  have d3 := fun o1 o2 o3 => (L o1 o2 o3 _).trans c2
  have d4 := fun o1 o2 o3 => (L o1 o2 o3 _).trans c3
  have d5 := fun o1 o2 o3 => (L o1 o2 o3 _).trans c4
  have d6 := fun o1 o2 o3 => (L o1 o2 o3 _).trans c5
  clear L
  go_enter Tryz.func260, Tryz.ntmps260
  go_wp2
  go_region_with (go_at_call 277; refine (HU.out _).mono ?_; rintro e w1 ⟨rfl, hb1⟩; obtain ⟨g1, h2, h3, hb2⟩ := far3 (w := w) (o1 := ndBox 17 k m x nm a) (o2 := knO 0 false) (o3 := knO 0 false) (w1 := w1) ⟨hb1.os, hb1.tape, hb1.output, hb1.size, hb1.block⟩)
  all_goals
    have hlt := lt_of_heap h3
    have l1 : w.heap.size + 1 < w1.heap.size := by omega
    have l2 : g < w1.heap.size := by omega
    have f0 := (hb2.cell (p := ⟨g, _, none⟩) hg).trans c0
    have f1 := (hb2.cell (p := ⟨g, _, none⟩) hg).trans c1
    have f3 := (hb2.cell (p := ⟨g, _, none⟩) hg).trans c3
    have f5 := (hb2.cell (p := ⟨g, _, none⟩) hg).trans c5
    clear d3 d4 d5 d6 c0 c1 c2 c3 c4 c5 hb1
    obtain ⟨⟨x0, x1, xf⟩, ⟨y0, y1, yf⟩, s0, s1, u0, u1⟩ := two_boxes h2 h3
    clear g1 x0 x1 xf u0 u1
    go_upto_region 17 with fail
    refine wp_region_any (by kernel_rfl) ?_
    change wpAny _ _ _ _ _ _ _ (World.drew _)
    refine yT 0 ?_; refine yT 1 ?_; refine yT 2 ?_; refine yT 3 ?_; refine yT 12 ?_
    refine yR 4 (fun K hK => ?_)
    go_simp
    refine hK _ _ ?_
    clear hK K
    refine yT 5 ?_; refine yT 6 ?_; refine yT 7 ?_; refine yT 8 ?_; refine yT 13 ?_; refine yS 14 ?_; refine yS 15 ?_; refine yS 16 ?_; refine yS 17 ?_; refine yT 18 ?_
    refine yR 9 (fun K hK => ?_)
    go_simp
    refine hK _ _ ?_
    clear hK K
    refine yT 10 ?_; refine yT 11 ?_
    refine yR 19 (fun K hK => ?_)
    go_simp
    refine hK _ _ ?_
    clear hK K
    refine yT 20 ?_
    refine wpAny_done (by kernel_rfl) ?_ _
    obtain ⟨⟨p0, p1, pf⟩, ⟨q0, q1, qf⟩, r0, r1, v0, v1⟩ := two_boxes h2 h3
    have T := fun o => two_boxes (w1 := w1.alloc o) ((heap_alloc_old _ _ (by omega)).trans h2) ((heap_alloc_old _ _ (by omega)).trans h3)
    have x0 := fun o => (T o).1.1
    have x1 := fun o => (T o).1.2.1
    have xf := fun o => (T o).1.2.2
    have y0 := fun o => (T o).2.1.1
    have y1 := fun o => (T o).2.1.2.1
    have yf := fun o => (T o).2.1.2.2
    have s0 := fun o => (T o).2.2.1
    have s1 := fun o => (T o).2.2.2.1
    have u0 := fun o => (T o).2.2.2.2.1
    have u1 := fun o => (T o).2.2.2.2.2
    have z1 : ∀ o a b, (((w1.setCell ⟨w.heap.size + 1, 0, none⟩ a).setCell ⟨w.heap.size + 1, 1, none⟩ b).alloc o).cell? ⟨w.heap.size + 1, 1, none⟩ = some b := fun o a b => ((show Below w1.heap.size ((w1.setCell ⟨w.heap.size + 1, 0, none⟩ a).setCell ⟨w.heap.size + 1, 1, none⟩ b) _ from zX).cell (p := ⟨w.heap.size + 1, 1, none⟩) l1).trans (box2set p0 p1 a b).2
    have z0 : ∀ o a b, (((w1.setCell ⟨w.heap.size + 1, 0, none⟩ a).setCell ⟨w.heap.size + 1, 1, none⟩ b).alloc o).cell? ⟨w.heap.size + 1, 0, none⟩ = some a := fun o a b => ((show Below w1.heap.size ((w1.setCell ⟨w.heap.size + 1, 0, none⟩ a).setCell ⟨w.heap.size + 1, 1, none⟩ b) _ from zX).cell (p := ⟨w.heap.size + 1, 0, none⟩) l1).trans ((World.cell?_setCell_other _ _ _ _ (by simp)).trans (box2set p0 p1 a b).1)
    have zz1 : ∀ o a b c d, (((((w1.setCell ⟨w.heap.size + 1 + 1, 0, none⟩ a).setCell ⟨w.heap.size + 1 + 1, 1, none⟩ b).setCell ⟨w.heap.size + 1, 0, none⟩ c).setCell ⟨w.heap.size + 1, 1, none⟩ d).alloc o).cell? ⟨w.heap.size + 1, 1, none⟩ = some d := fun o a b c d => ((Below.alloc (Below.refl _ _) (Nat.le_refl _) o).cell (p := ⟨w.heap.size + 1, 1, none⟩) (by simp; omega)).trans (v1 a b c d)
    have zz0 : ∀ o a b c d, (((((w1.setCell ⟨w.heap.size + 1 + 1, 0, none⟩ a).setCell ⟨w.heap.size + 1 + 1, 1, none⟩ b).setCell ⟨w.heap.size + 1, 0, none⟩ c).setCell ⟨w.heap.size + 1, 1, none⟩ d).alloc o).cell? ⟨w.heap.size + 1, 0, none⟩ = some c := fun o a b c d => ((Below.alloc (Below.refl _ _) (Nat.le_refl _) o).cell (p := ⟨w.heap.size + 1, 0, none⟩) (by simp; omega)).trans ((World.cell?_setCell_other _ _ _ _ (by simp)).trans (v0 a b c))
    have hb3 : ∀ o, Below w.heap.size w (w1.alloc o) := fun o => hb2.trans zX
    clear T h2 h3 f0 f1 f3 f5
    go_wp2
    all_goals
      refine bodyPost_ret (v := .tuple #[.agg #[.int .i64 0, .bool false], .int .i64 7]) (by first | (simp [results, Tryz.results260, go_sem, z0, z1, zz0, zz1, s0, s1, u0, u1, r0, r1, v0, v1]; done) | (simp [results, Tryz.results260, go_sem, z0, z1, zz0, zz1, s0, s1, u0, u1, r0, r1, v0, v1]; rfl)) rfl ⟨by rw [HR.out]; rfl, zX⟩
set_option maxRecDepth 100000 in
set_option maxHeartbeats 16000000 in
theorem if_ft_s : IfAtS false true := by
  intro cs zs k m a x nm g off Cp Z xc cm cc zm zc w k0 k1 k2 b0 b2 hg hcm c0 c1 c2 c3 c4 c5
  have HU := hide (fun W => ref9_common_s k1 k2 true b2 W)
  have HF := hide (fun (b : Bool) W => ref9_fits_any k0 1 b W)
  obtain ⟨kr, hkr⟩ : ∃ kr, comS (k1, true) (k2, b2) = (kr, false) := ⟨_, Prod.ext rfl hcm⟩
  have hR : nodeS cs zs 17 k (bs nm) [(k0, b0), (k1, true), (k2, b2)] = okN ((kr, true || b2), false && fitK k0 1) := by
    show okN (((comS (k1, true) (k2, b2)).1, true || b2), (comS (k1, true) (k2, b2)).2 && fitK k0 1) = _
    rw [hkr]
  rw [hkr] at HU
  clear hcm hkr
  generalize fitK k0 1 = f at *
  have HR := hide hR
  clear hR
  have L : ∀ (o1 o2 o3 : Obj) (p : Nat), (((w.alloc o1).alloc o2).alloc o3).cell? ⟨g, p, none⟩ = w.cell? ⟨g, p, none⟩ := fun o1 o2 o3 p => (show Below w.heap.size w (((w.alloc o1).alloc o2).alloc o3) from zX).cell (p := ⟨g, p, none⟩) hg
  have d3 := fun o1 o2 o3 => (L o1 o2 o3 _).trans c2
  have d4 := fun o1 o2 o3 => (L o1 o2 o3 _).trans c3
  have d5 := fun o1 o2 o3 => (L o1 o2 o3 _).trans c4
  have d6 := fun o1 o2 o3 => (L o1 o2 o3 _).trans c5
  clear L
  go_enter Tryz.func260, Tryz.ntmps260
  go_wp2
  go_region_with (go_at_call 277; refine (HU.out _).mono ?_; rintro e w1 ⟨rfl, hb1⟩; obtain ⟨g1, h2, h3, hb2⟩ := far3 (w := w) (o1 := ndBox 17 k m x nm a) (o2 := knO 0 false) (o3 := knO 0 false) (w1 := w1) ⟨hb1.os, hb1.tape, hb1.output, hb1.size, hb1.block⟩)
  all_goals
    have hlt := lt_of_heap h3
    have l1 : w.heap.size + 1 < w1.heap.size := by omega
    have l2 : g < w1.heap.size := by omega
    have f0 := (hb2.cell (p := ⟨g, _, none⟩) hg).trans c0
    have f1 := (hb2.cell (p := ⟨g, _, none⟩) hg).trans c1
    have f3 := (hb2.cell (p := ⟨g, _, none⟩) hg).trans c3
    have f5 := (hb2.cell (p := ⟨g, _, none⟩) hg).trans c5
    clear d3 d4 d5 d6 c0 c1 c2 c3 c4 c5 hb1
    obtain ⟨⟨x0, x1, xf⟩, ⟨y0, y1, yf⟩, s0, s1, u0, u1⟩ := two_boxes h2 h3
    clear g1 x0 x1 xf u0 u1
    go_upto_region 17 with fail
    refine wp_region_any (by kernel_rfl) ?_
    change wpAny _ _ _ _ _ _ _ (World.drew _)
    refine yT 0 ?_; refine yT 1 ?_; refine yT 2 ?_; refine yT 3 ?_; refine yT 12 ?_
    refine yR 4 (fun K hK => ?_)
    go_simp
    refine hK _ _ ?_
    clear hK K
    refine yT 5 ?_; refine yS 6 ?_; refine yS 7 ?_; refine yS 8 ?_; refine yS 9 ?_; refine yT 10 ?_; refine yT 11 ?_; refine yT 13 ?_; refine yS 14 ?_; refine yS 15 ?_; refine yS 16 ?_; refine yS 17 ?_; refine yT 18 ?_
    refine yR 19 (fun K hK => ?_)
    go_simp
    refine hK _ _ ?_
    clear hK K
    refine yT 20 ?_
    refine wpAny_done (by kernel_rfl) ?_ _
    obtain ⟨⟨p0, p1, pf⟩, ⟨q0, q1, qf⟩, r0, r1, v0, v1⟩ := two_boxes h2 h3
    have T := fun o => two_boxes (w1 := w1.alloc o) ((heap_alloc_old _ _ (by omega)).trans h2) ((heap_alloc_old _ _ (by omega)).trans h3)
    have x0 := fun o => (T o).1.1
    have x1 := fun o => (T o).1.2.1
    have xf := fun o => (T o).1.2.2
    have y0 := fun o => (T o).2.1.1
    have y1 := fun o => (T o).2.1.2.1
    have yf := fun o => (T o).2.1.2.2
    have s0 := fun o => (T o).2.2.1
    have s1 := fun o => (T o).2.2.2.1
    have u0 := fun o => (T o).2.2.2.2.1
    have u1 := fun o => (T o).2.2.2.2.2
    have z1 : ∀ o a b, (((w1.setCell ⟨w.heap.size + 1, 0, none⟩ a).setCell ⟨w.heap.size + 1, 1, none⟩ b).alloc o).cell? ⟨w.heap.size + 1, 1, none⟩ = some b := fun o a b => ((show Below w1.heap.size ((w1.setCell ⟨w.heap.size + 1, 0, none⟩ a).setCell ⟨w.heap.size + 1, 1, none⟩ b) _ from zX).cell (p := ⟨w.heap.size + 1, 1, none⟩) l1).trans (box2set p0 p1 a b).2
    have z0 : ∀ o a b, (((w1.setCell ⟨w.heap.size + 1, 0, none⟩ a).setCell ⟨w.heap.size + 1, 1, none⟩ b).alloc o).cell? ⟨w.heap.size + 1, 0, none⟩ = some a := fun o a b => ((show Below w1.heap.size ((w1.setCell ⟨w.heap.size + 1, 0, none⟩ a).setCell ⟨w.heap.size + 1, 1, none⟩ b) _ from zX).cell (p := ⟨w.heap.size + 1, 0, none⟩) l1).trans ((World.cell?_setCell_other _ _ _ _ (by simp)).trans (box2set p0 p1 a b).1)
    have zz1 : ∀ o a b c d, (((((w1.setCell ⟨w.heap.size + 1 + 1, 0, none⟩ a).setCell ⟨w.heap.size + 1 + 1, 1, none⟩ b).setCell ⟨w.heap.size + 1, 0, none⟩ c).setCell ⟨w.heap.size + 1, 1, none⟩ d).alloc o).cell? ⟨w.heap.size + 1, 1, none⟩ = some d := fun o a b c d => ((Below.alloc (Below.refl _ _) (Nat.le_refl _) o).cell (p := ⟨w.heap.size + 1, 1, none⟩) (by simp; omega)).trans (v1 a b c d)
    have zz0 : ∀ o a b c d, (((((w1.setCell ⟨w.heap.size + 1 + 1, 0, none⟩ a).setCell ⟨w.heap.size + 1 + 1, 1, none⟩ b).setCell ⟨w.heap.size + 1, 0, none⟩ c).setCell ⟨w.heap.size + 1, 1, none⟩ d).alloc o).cell? ⟨w.heap.size + 1, 0, none⟩ = some c := fun o a b c d => ((Below.alloc (Below.refl _ _) (Nat.le_refl _) o).cell (p := ⟨w.heap.size + 1, 0, none⟩) (by simp; omega)).trans ((World.cell?_setCell_other _ _ _ _ (by simp)).trans (v0 a b c))
    have hb3 : ∀ o, Below w.heap.size w (w1.alloc o) := fun o => hb2.trans zX
    clear T h2 h3 f0 f1 f3 f5
    go_wp2
    all_goals
      refine bodyPost_ret (v := .tuple #[.agg #[.int .i64 0, .bool false], .int .i64 7]) (by first | (simp [results, Tryz.results260, go_sem, z0, z1, zz0, zz1, s0, s1, u0, u1, r0, r1, v0, v1]; done) | (simp [results, Tryz.results260, go_sem, z0, z1, zz0, zz1, s0, s1, u0, u1, r0, r1, v0, v1]; rfl)) rfl ⟨by rw [HR.out]; rfl, zX⟩
set_option maxRecDepth 100000 in
set_option maxHeartbeats 16000000 in
theorem if_tt_s : IfAtS true true := by
  intro cs zs k m a x nm g off Cp Z xc cm cc zm zc w k0 k1 k2 b0 b2 hg hcm c0 c1 c2 c3 c4 c5
  have HU := hide (fun W => ref9_common_s k1 k2 true b2 W)
  have HF := hide (fun (b : Bool) W => ref9_fits_any k0 1 b W)
  obtain ⟨kr, hkr⟩ : ∃ kr, comS (k1, true) (k2, b2) = (kr, true) := ⟨_, Prod.ext rfl hcm⟩
  have hR : nodeS cs zs 17 k (bs nm) [(k0, b0), (k1, true), (k2, b2)] = okN ((kr, true || b2), true && fitK k0 1) := by
    show okN (((comS (k1, true) (k2, b2)).1, true || b2), (comS (k1, true) (k2, b2)).2 && fitK k0 1) = _
    rw [hkr]
  rw [hkr] at HU
  clear hcm hkr
  generalize fitK k0 1 = f at *
  have HR := hide hR
  clear hR
  have L : ∀ (o1 o2 o3 : Obj) (p : Nat), (((w.alloc o1).alloc o2).alloc o3).cell? ⟨g, p, none⟩ = w.cell? ⟨g, p, none⟩ := fun o1 o2 o3 p => (show Below w.heap.size w (((w.alloc o1).alloc o2).alloc o3) from zX).cell (p := ⟨g, p, none⟩) hg
  have d3 := fun o1 o2 o3 => (L o1 o2 o3 _).trans c2
  have d4 := fun o1 o2 o3 => (L o1 o2 o3 _).trans c3
  have d5 := fun o1 o2 o3 => (L o1 o2 o3 _).trans c4
  have d6 := fun o1 o2 o3 => (L o1 o2 o3 _).trans c5
  clear L
  go_enter Tryz.func260, Tryz.ntmps260
  go_wp2
  go_region_with (go_at_call 277; refine (HU.out _).mono ?_; rintro e w1 ⟨rfl, hb1⟩; obtain ⟨g1, h2, h3, hb2⟩ := far3 (w := w) (o1 := ndBox 17 k m x nm a) (o2 := knO 0 false) (o3 := knO 0 false) (w1 := w1) ⟨hb1.os, hb1.tape, hb1.output, hb1.size, hb1.block⟩)
  all_goals
    have hlt := lt_of_heap h3
    have l1 : w.heap.size + 1 < w1.heap.size := by omega
    have l2 : g < w1.heap.size := by omega
    have f0 := (hb2.cell (p := ⟨g, _, none⟩) hg).trans c0
    have f1 := (hb2.cell (p := ⟨g, _, none⟩) hg).trans c1
    have f3 := (hb2.cell (p := ⟨g, _, none⟩) hg).trans c3
    have f5 := (hb2.cell (p := ⟨g, _, none⟩) hg).trans c5
    clear d3 d4 d5 d6 c0 c1 c2 c3 c4 c5 hb1
    obtain ⟨⟨x0, x1, xf⟩, ⟨y0, y1, yf⟩, s0, s1, u0, u1⟩ := two_boxes h2 h3
    clear g1 x0 x1 xf u0 u1
    go_upto_region 17 with fail
    refine wp_region_any (by kernel_rfl) ?_
    change wpAny _ _ _ _ _ _ _ (World.drew _)
    refine yT 0 ?_; refine yT 1 ?_; refine yT 2 ?_; refine yT 3 ?_; refine yT 12 ?_
    refine yR 4 (fun K hK => ?_)
    go_simp
    refine hK _ _ ?_
    clear hK K
    refine yT 5 ?_; refine yS 6 ?_; refine yS 7 ?_; refine yS 8 ?_; refine yS 9 ?_; refine yT 10 ?_; refine yT 11 ?_; refine yT 13 ?_; refine yT 14 ?_; refine yT 15 ?_
    refine yR 16 (fun K hK => ?_)
    go_simp
    refine hK _ _ ?_
    clear hK K
    refine yR 17 (fun K hK => ?_)
    go_simp
    go_wp2_with (go_at_call 278; refine (HF.out _ _).mono ?_; rintro e w' ⟨rfl, rfl⟩)
    refine yT 18 ?_
    refine yR 19 (fun K hK => ?_)
    go_simp
    refine hK _ _ ?_
    clear hK K
    refine yT 20 ?_
    refine wpAny_done (by kernel_rfl) ?_ _
    obtain ⟨⟨p0, p1, pf⟩, ⟨q0, q1, qf⟩, r0, r1, v0, v1⟩ := two_boxes h2 h3
    have T := fun o => two_boxes (w1 := w1.alloc o) ((heap_alloc_old _ _ (by omega)).trans h2) ((heap_alloc_old _ _ (by omega)).trans h3)
    have x0 := fun o => (T o).1.1
    have x1 := fun o => (T o).1.2.1
    have xf := fun o => (T o).1.2.2
    have y0 := fun o => (T o).2.1.1
    have y1 := fun o => (T o).2.1.2.1
    have yf := fun o => (T o).2.1.2.2
    have s0 := fun o => (T o).2.2.1
    have s1 := fun o => (T o).2.2.2.1
    have u0 := fun o => (T o).2.2.2.2.1
    have u1 := fun o => (T o).2.2.2.2.2
    have z1 : ∀ o a b, (((w1.setCell ⟨w.heap.size + 1, 0, none⟩ a).setCell ⟨w.heap.size + 1, 1, none⟩ b).alloc o).cell? ⟨w.heap.size + 1, 1, none⟩ = some b := fun o a b => ((show Below w1.heap.size ((w1.setCell ⟨w.heap.size + 1, 0, none⟩ a).setCell ⟨w.heap.size + 1, 1, none⟩ b) _ from zX).cell (p := ⟨w.heap.size + 1, 1, none⟩) l1).trans (box2set p0 p1 a b).2
    have z0 : ∀ o a b, (((w1.setCell ⟨w.heap.size + 1, 0, none⟩ a).setCell ⟨w.heap.size + 1, 1, none⟩ b).alloc o).cell? ⟨w.heap.size + 1, 0, none⟩ = some a := fun o a b => ((show Below w1.heap.size ((w1.setCell ⟨w.heap.size + 1, 0, none⟩ a).setCell ⟨w.heap.size + 1, 1, none⟩ b) _ from zX).cell (p := ⟨w.heap.size + 1, 0, none⟩) l1).trans ((World.cell?_setCell_other _ _ _ _ (by simp)).trans (box2set p0 p1 a b).1)
    have zz1 : ∀ o a b c d, (((((w1.setCell ⟨w.heap.size + 1 + 1, 0, none⟩ a).setCell ⟨w.heap.size + 1 + 1, 1, none⟩ b).setCell ⟨w.heap.size + 1, 0, none⟩ c).setCell ⟨w.heap.size + 1, 1, none⟩ d).alloc o).cell? ⟨w.heap.size + 1, 1, none⟩ = some d := fun o a b c d => ((Below.alloc (Below.refl _ _) (Nat.le_refl _) o).cell (p := ⟨w.heap.size + 1, 1, none⟩) (by simp; omega)).trans (v1 a b c d)
    have zz0 : ∀ o a b c d, (((((w1.setCell ⟨w.heap.size + 1 + 1, 0, none⟩ a).setCell ⟨w.heap.size + 1 + 1, 1, none⟩ b).setCell ⟨w.heap.size + 1, 0, none⟩ c).setCell ⟨w.heap.size + 1, 1, none⟩ d).alloc o).cell? ⟨w.heap.size + 1, 0, none⟩ = some c := fun o a b c d => ((Below.alloc (Below.refl _ _) (Nat.le_refl _) o).cell (p := ⟨w.heap.size + 1, 0, none⟩) (by simp; omega)).trans ((World.cell?_setCell_other _ _ _ _ (by simp)).trans (v0 a b c))
    have hb3 : ∀ o, Below w.heap.size w (w1.alloc o) := fun o => hb2.trans zX
    clear T h2 h3 f0 f1 f3 f5
    cases f
    · go_wp2
      all_goals
        refine bodyPost_ret (v := .tuple #[.agg #[.int .i64 0, .bool false], .int .i64 7]) (by first | (simp [results, Tryz.results260, go_sem, z0, z1, zz0, zz1, s0, s1, u0, u1, r0, r1, v0, v1]; done) | (simp [results, Tryz.results260, go_sem, z0, z1, zz0, zz1, s0, s1, u0, u1, r0, r1, v0, v1]; rfl)) rfl ⟨by rw [HR.out]; rfl, zX⟩
    · go_wp2
      all_goals
        refine bodyPost_ret (v := .tuple #[.agg #[.int .i64 kr, .bool true], .int .i64 0]) (by first | (simp [results, Tryz.results260, go_sem, z0, z1, zz0, zz1, s0, s1, u0, u1, r0, r1, v0, v1]; done) | (simp [results, Tryz.results260, go_sem, z0, z1, zz0, zz1, s0, s1, u0, u1, r0, r1, v0, v1]; rfl)) rfl ⟨by rw [HR.out]; rfl, zX⟩
end Go.Proofs.YtmbeeefkpgfgmaaGreatDoor
