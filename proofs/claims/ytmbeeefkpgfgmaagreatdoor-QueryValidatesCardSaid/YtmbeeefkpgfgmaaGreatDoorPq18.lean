/- Contracts of the laws' own functions: columns, light (law8). Contract: base.Nodes: some list of nodes. Contracts for building expressions, told: base.apply over parts, base.logical, base.numeric, base.Expr, law8.made. -/
import Derived.Test.YtmbeeefkpgfgmaaGreatDoorPq08
import Derived.RegionTactic
import Derived.ChangeAlike
import Derived.BigRegion
import Derived.Test.YtmbeeefkpgfgmaaGreatDoorPq11
import Derived.Test.YtmbeeefkpgfgmaaGreatDoorPq12
import Derived.Test.YtmbeeefkpgfgmaaGreatDoorPq07
set_option linter.unusedVariables false
set_option linter.unusedSimpArgs false
namespace Go.Proofs.YtmbeeefkpgfgmaaGreatDoor
open Go.RowKit
theorem NamesOk.push {es : List Nd} {n : Nd} (h : NamesOk es) (hn : n.name.length ≤ 9) : NamesOk (es ++ [n]) := fun m hm => by
  rcases List.mem_append.1 hm with hm | hm
  · exact h m hm
  · simp only [List.mem_cons, List.not_mem_nil, or_false] at hm
    subst hm; unfold maxLen; omega
end Go.Proofs.YtmbeeefkpgfgmaaGreatDoor
namespace Go.Proofs.YtmbeeefkpgfgmaaGreatDoor
open Go.RowKit
theorem apply_tail_t {B : Nat} {W0 W : World} {os : List Opd} {op : Int} {t : TypeId} {es : List Nd} (hB : W0.heap.size = B) (hb : Below B W0 W) (h : ∀ o ∈ os, NdsAt W o.A o.es ∧ o.es ≠ [] ∧ o.es.length ≤ 10000) (hl : os.length ≤ 10)
    (hg : es = flatO os ++ [⟨op, vl0, [], 0⟩]) :
    Calls Tryz.prog 218 #[.int .i64 op, .slice (some ⟨W.heap.size, 0, none⟩) os.length os.length] (W.alloc (.cells (os.map fun o => Value.slice o.A o.es.length o.c).toArray t)) fun e w' => OwnNds W0 w' es e ∧ Below W0.heap.size W0 w' := by
  subst hB
  subst hg
  refine (base_apply_any op W.heap.size 0 os.length os _ (ops_new os h) hl).mono ?_
  rintro e w' ⟨⟨A, c, rfl, hown⟩, hb2⟩
  have hs := hb.size
  refine ⟨⟨A, c, rfl, own_low hown (by simp; omega)⟩, ?_⟩
  exact (hb.alloc hs _).trans (hb2.mono (by simp; omega))
theorem apply_un_t {cs : List Bytes} {d c : Nat} {W0 W : World} {A : Option Addr} {es1 es : List Nd} {op : Int} {t : TypeId} (hes : es = es1 ++ [⟨op, vl0, [], 0⟩]) (hd : d ≤ 4) (hb : Below W0.heap.size W0 W)
    (g : Good cs d es1) (ho : OwnE W0.heap.size W A es1 c) :
    Calls Tryz.prog 218 #[.int .i64 op, .slice (some ⟨W.heap.size, 0, none⟩) 1 1] (W.alloc (.cells #[.slice A es1.length c] t)) fun e w' => OwnNds W0 w' es e ∧ Below W0.heap.size W0 w' := by
  have hl := g.short hd
  refine apply_tail_t (os := [⟨A, es1, c⟩]) rfl hb ?_ (by simp) (by simpa [flatO] using hes)
  intro o ho2
  simp only [List.mem_cons, List.not_mem_nil, or_false] at ho2
  subst ho2
  exact ⟨NdsAt_of_own ho, g.ne, by show es1.length ≤ _; omega⟩
theorem apply_bin_t {cs : List Bytes} {d c1 c2 : Nat} {W0 W : World} {A1 A2 : Option Addr} {es1 es2 es : List Nd} {op : Int} {t : TypeId} (hes : es = es1 ++ es2 ++ [⟨op, vl0, [], 0⟩]) (hd : d ≤ 4) (hb : Below W0.heap.size W0 W)
    (g1 : Good cs d es1) (o1 : OwnE W0.heap.size W A1 es1 c1) (g2 : Good cs d es2) (o2 : OwnE W0.heap.size W A2 es2 c2) :
    Calls Tryz.prog 218 #[.int .i64 op, .slice (some ⟨W.heap.size, 0, none⟩) 2 2] (W.alloc (.cells #[.slice A1 es1.length c1, .slice A2 es2.length c2] t)) fun e w' => OwnNds W0 w' es e ∧ Below W0.heap.size W0 w' := by
  have h1 := g1.short hd
  have h2 := g2.short hd
  refine apply_tail_t (os := [⟨A1, es1, c1⟩, ⟨A2, es2, c2⟩]) rfl hb ?_ (by simp) (by simpa [flatO] using hes)
  intro o ho
  simp only [List.mem_cons, List.not_mem_nil, or_false] at ho
  rcases ho with rfl | rfl
  · exact ⟨NdsAt_of_own o1, g1.ne, by show es1.length ≤ _; omega⟩
  · exact ⟨NdsAt_of_own o2, g2.ne, by show es2.length ≤ _; omega⟩
theorem apply_tri_t {cs : List Bytes} {d c1 c2 c3 : Nat} {W0 W : World} {A1 A2 A3 : Option Addr} {es1 es2 es3 es : List Nd} {op : Int} {t : TypeId} (hes : es = es1 ++ es2 ++ es3 ++ [⟨op, vl0, [], 0⟩]) (hd : d ≤ 4) (hb : Below W0.heap.size W0 W)
    (g1 : Good cs d es1) (o1 : OwnE W0.heap.size W A1 es1 c1) (g2 : Good cs d es2) (o2 : OwnE W0.heap.size W A2 es2 c2) (g3 : Good cs d es3) (o3 : OwnE W0.heap.size W A3 es3 c3) :
    Calls Tryz.prog 218 #[.int .i64 op, .slice (some ⟨W.heap.size, 0, none⟩) 3 3] (W.alloc (.cells #[.slice A1 es1.length c1, .slice A2 es2.length c2, .slice A3 es3.length c3] t)) fun e w' => OwnNds W0 w' es e ∧ Below W0.heap.size W0 w' := by
  have h1 := g1.short hd
  have h2 := g2.short hd
  have h3 := g3.short hd
  refine apply_tail_t (os := [⟨A1, es1, c1⟩, ⟨A2, es2, c2⟩, ⟨A3, es3, c3⟩]) rfl hb ?_ (by simp) (by simpa [flatO] using hes)
  intro o ho
  simp only [List.mem_cons, List.not_mem_nil, or_false] at ho
  rcases ho with rfl | rfl | rfl
  · exact ⟨NdsAt_of_own o1, g1.ne, by show es1.length ≤ _; omega⟩
  · exact ⟨NdsAt_of_own o2, g2.ne, by show es2.length ≤ _; omega⟩
  · exact ⟨NdsAt_of_own o3, g3.ne, by show es3.length ≤ _; omega⟩
def ExprTold (d : Nat) : Prop := ∀ (kind i : Int) (cs : List Col) (l : List Int), ColsOk cs → cs.length ≤ 1000 → 0 ≤ i → i ≤ atB d →
    ∃ es, Good (colNm cs) d es ∧ ∀ (C : Option Addr) (cc : Nat) (L : Option Addr) (lc : Nat) (W : World), ColsAt W C cs → IntsAt W L l →
      Calls Tryz.prog 141 #[.int .i64 kind, .slice C cs.length cc, .slice L l.length lc, .int .i64 i, .int .i64 (d : Int)] W fun e w' => OwnNds W w' es e ∧ Below W.heap.size W w'
set_option maxRecDepth 100000 in
set_option maxHeartbeats 4000000 in
theorem logical_told (d : Nat) (hd : d ≤ 4) (hI : ExprTold d) (i D : Int) (cs : List Col) (l : List Int) (hco : ColsOk cs) (hcl : cs.length ≤ 1000) (h0 : 0 ≤ i) (h1 : 2 * i + 2 ≤ atB d) (hD : D - 1 = (d : Int)) : ∃ es, Good (colNm cs) (d + 1) es ∧ ∀ (C : Option Addr) (cc : Nat) (L : Option Addr) (lc : Nat) (W : World), ColsAt W C cs → IntsAt W L l →
      Calls Tryz.prog 219 #[.slice C cs.length cc, .slice L l.length lc, .int .i64 i, .int .i64 D] W fun e w' => OwnNds W w' es e ∧ Below W.heap.size W w' := by
  have htop := atB_le d
  have hn0 := lAt_nn l i
  have hn1 := lAt_top l i
  obtain ⟨n, hn⟩ : ∃ n, lAt l i = n := ⟨_, rfl⟩
  rw [hn] at hn0 hn1
  have k0 : 0 ≤ n / 16 := by omega
  have k1 : n / 16 ≤ 131072 := by omega
  by_cases e0 : n % 9 = 0
  · obtain ⟨es1, g1, H1⟩ := hI 1 (2 * i + 1) cs l hco hcl (by omega) (by omega)
    have hop : (⟨2, vl0, [], 0⟩ : Nd).ok = true ∧ (⟨2, vl0, [], 0⟩ : Nd).ar = 1 := ⟨rfl, rfl⟩
    obtain ⟨es, hes⟩ : ∃ es, es = es1 ++ [⟨2, vl0, [], 0⟩] := ⟨_, rfl⟩
    refine ⟨es, by rw [hes]; exact Good.un (by omega) g1 hop.1 hop.2, fun C cc L lc w hC hL => ?_⟩
    have HAt := hide (by have := base_At_any L l i w lc hL; rw [hn] at this; exact this)
    have HE1 := hide (fun W (hb : Below w.heap.size w W) => H1 C cc L lc W (hC.below hb) (hL.below hb))
    have HES := hide hes
    clear hes hC hL hI hn H1
    go_enter Tryz.func219, Tryz.ntmps219
    go_wp2_with (go_at_call 70; refine HAt.out.mono ?_; rintro e w0 ⟨rfl, hq⟩; have hb0 : Below w.heap.size w w0 := (by obtain ⟨q, rfl⟩ := hq; exact below_drewN (Below.refl _ _) q); clear hq HAt)
    refine (HE1.out _ hb0).mono ?_
    rintro e w1 ⟨⟨A1, c1, rfl, o1⟩, hb1⟩
    go_wp2_with fail
    refine (apply_un_t HES.out hd (bel2 hb1 hb0) g1 (own_low o1 hb0.size)).mono ?_
    rintro e w9 ⟨⟨A, c, rfl, own⟩, hb⟩
    go_wp2
    go_ret
    exact ⟨⟨A, c, rfl, own⟩, hb⟩
  by_cases e1 : n % 9 = 1
  · obtain ⟨es1, g1, H1⟩ := hI 1 (2 * i + 1) cs l hco hcl (by omega) (by omega)
    obtain ⟨es2, g2, H2⟩ := hI 1 (2 * i + 2) cs l hco hcl (by omega) (by omega)
    have hop : (⟨14, vl0, [], 0⟩ : Nd).ok = true ∧ (⟨14, vl0, [], 0⟩ : Nd).ar = 2 := ⟨rfl, rfl⟩
    obtain ⟨es, hes⟩ : ∃ es, es = es1 ++ es2 ++ [⟨14, vl0, [], 0⟩] := ⟨_, rfl⟩
    refine ⟨es, by rw [hes]; exact Good.bin (by omega) g1 g2 hop.1 hop.2, fun C cc L lc w hC hL => ?_⟩
    have HAt := hide (by have := base_At_any L l i w lc hL; rw [hn] at this; exact this)
    have HE1 := hide (fun W (hb : Below w.heap.size w W) => H1 C cc L lc W (hC.below hb) (hL.below hb))
    have HE2 := hide (fun W (hb : Below w.heap.size w W) => H2 C cc L lc W (hC.below hb) (hL.below hb))
    have HES := hide hes
    clear hes hC hL hI hn H1 H2
    go_enter Tryz.func219, Tryz.ntmps219
    go_wp2_with (go_at_call 70; refine HAt.out.mono ?_; rintro e w0 ⟨rfl, hq⟩; have hb0 : Below w.heap.size w w0 := (by obtain ⟨q, rfl⟩ := hq; exact below_drewN (Below.refl _ _) q); clear hq HAt)
    refine (HE1.out _ hb0).mono ?_
    rintro e w1 ⟨⟨A1, c1, rfl, o1⟩, hb1⟩
    go_wp2_with fail
    refine (HE2.out _ (bel2 hb1 hb0)).mono ?_
    rintro e w2 ⟨⟨A2, c2, rfl, o2⟩, hb2⟩
    go_wp2_with fail
    refine (apply_bin_t HES.out hd (bel2 hb2 (bel2 hb1 hb0)) g1 (own_low (own_below o1 hb2) hb0.size) g2 (own_low o2 (bel2 hb1 hb0).size)).mono ?_
    rintro e w9 ⟨⟨A, c, rfl, own⟩, hb⟩
    go_wp2
    go_ret
    exact ⟨⟨A, c, rfl, own⟩, hb⟩
  by_cases e2 : n % 9 = 2
  · obtain ⟨es1, g1, H1⟩ := hI 1 (2 * i + 1) cs l hco hcl (by omega) (by omega)
    obtain ⟨es2, g2, H2⟩ := hI 1 (2 * i + 2) cs l hco hcl (by omega) (by omega)
    have hop : (⟨15, vl0, [], 0⟩ : Nd).ok = true ∧ (⟨15, vl0, [], 0⟩ : Nd).ar = 2 := ⟨rfl, rfl⟩
    obtain ⟨es, hes⟩ : ∃ es, es = es1 ++ es2 ++ [⟨15, vl0, [], 0⟩] := ⟨_, rfl⟩
    refine ⟨es, by rw [hes]; exact Good.bin (by omega) g1 g2 hop.1 hop.2, fun C cc L lc w hC hL => ?_⟩
    have HAt := hide (by have := base_At_any L l i w lc hL; rw [hn] at this; exact this)
    have HE1 := hide (fun W (hb : Below w.heap.size w W) => H1 C cc L lc W (hC.below hb) (hL.below hb))
    have HE2 := hide (fun W (hb : Below w.heap.size w W) => H2 C cc L lc W (hC.below hb) (hL.below hb))
    have HES := hide hes
    clear hes hC hL hI hn H1 H2
    go_enter Tryz.func219, Tryz.ntmps219
    go_wp2_with (go_at_call 70; refine HAt.out.mono ?_; rintro e w0 ⟨rfl, hq⟩; have hb0 : Below w.heap.size w w0 := (by obtain ⟨q, rfl⟩ := hq; exact below_drewN (Below.refl _ _) q); clear hq HAt)
    refine (HE1.out _ hb0).mono ?_
    rintro e w1 ⟨⟨A1, c1, rfl, o1⟩, hb1⟩
    go_wp2_with fail
    refine (HE2.out _ (bel2 hb1 hb0)).mono ?_
    rintro e w2 ⟨⟨A2, c2, rfl, o2⟩, hb2⟩
    go_wp2_with fail
    refine (apply_bin_t HES.out hd (bel2 hb2 (bel2 hb1 hb0)) g1 (own_low (own_below o1 hb2) hb0.size) g2 (own_low o2 (bel2 hb1 hb0).size)).mono ?_
    rintro e w9 ⟨⟨A, c, rfl, own⟩, hb⟩
    go_wp2
    go_ret
    exact ⟨⟨A, c, rfl, own⟩, hb⟩
  by_cases e3 : n % 9 = 3
  · obtain ⟨es1, g1, H1⟩ := hI (1 + n / 16 % 4) (2 * i + 1) cs l hco hcl (by omega) (by omega)
    have hop : (⟨16, vl0, [], 0⟩ : Nd).ok = true ∧ (⟨16, vl0, [], 0⟩ : Nd).ar = 1 := ⟨rfl, rfl⟩
    obtain ⟨es, hes⟩ : ∃ es, es = es1 ++ [⟨16, vl0, [], 0⟩] := ⟨_, rfl⟩
    refine ⟨es, by rw [hes]; exact Good.un (by omega) g1 hop.1 hop.2, fun C cc L lc w hC hL => ?_⟩
    have HAt := hide (by have := base_At_any L l i w lc hL; rw [hn] at this; exact this)
    have HE1 := hide (fun W (hb : Below w.heap.size w W) => H1 C cc L lc W (hC.below hb) (hL.below hb))
    have HES := hide hes
    clear hes hC hL hI hn H1
    go_enter Tryz.func219, Tryz.ntmps219
    go_wp2_with (go_at_call 70; refine HAt.out.mono ?_; rintro e w0 ⟨rfl, hq⟩; have hb0 : Below w.heap.size w w0 := (by obtain ⟨q, rfl⟩ := hq; exact below_drewN (Below.refl _ _) q); clear hq HAt)
    refine (HE1.out _ hb0).mono ?_
    rintro e w1 ⟨⟨A1, c1, rfl, o1⟩, hb1⟩
    go_wp2_with fail
    refine (apply_un_t HES.out hd (bel2 hb1 hb0) g1 (own_low o1 hb0.size)).mono ?_
    rintro e w9 ⟨⟨A, c, rfl, own⟩, hb⟩
    go_wp2
    go_ret
    exact ⟨⟨A, c, rfl, own⟩, hb⟩
  have f0 : (n % 9 == 0) = false := beq_eq_false_iff_ne.2 e0
  have f1 : (n % 9 == 1) = false := beq_eq_false_iff_ne.2 e1
  have f2 : (n % 9 == 2) = false := beq_eq_false_iff_ne.2 e2
  have f3 : (n % 9 == 3) = false := beq_eq_false_iff_ne.2 e3
  · obtain ⟨es1, g1, H1⟩ := hI (1 + n / 16 % 4) (2 * i + 1) cs l hco hcl (by omega) (by omega)
    obtain ⟨es2, g2, H2⟩ := hI (1 + n / 16 % 4) (2 * i + 2) cs l hco hcl (by omega) (by omega)
    have hop : (⟨(10 + n % 4), vl0, [], 0⟩ : Nd).ok = true ∧ (⟨(10 + n % 4), vl0, [], 0⟩ : Nd).ar = 2 := op_bin (by omega) (by omega)
    obtain ⟨es, hes⟩ : ∃ es, es = es1 ++ es2 ++ [⟨(10 + n % 4), vl0, [], 0⟩] := ⟨_, rfl⟩
    refine ⟨es, by rw [hes]; exact Good.bin (by omega) g1 g2 hop.1 hop.2, fun C cc L lc w hC hL => ?_⟩
    have HAt := hide (by have := base_At_any L l i w lc hL; rw [hn] at this; exact this)
    have HE1 := hide (fun W (hb : Below w.heap.size w W) => H1 C cc L lc W (hC.below hb) (hL.below hb))
    have HE2 := hide (fun W (hb : Below w.heap.size w W) => H2 C cc L lc W (hC.below hb) (hL.below hb))
    have HES := hide hes
    clear e0 e1 e2 e3 hes hC hL hI hn H1 H2
    go_enter Tryz.func219, Tryz.ntmps219
    go_wp2_with (go_at_call 70; refine HAt.out.mono ?_; rintro e w0 ⟨rfl, hq⟩; have hb0 : Below w.heap.size w w0 := (by obtain ⟨q, rfl⟩ := hq; exact below_drewN (Below.refl _ _) q); clear hq HAt)
    refine (HE1.out _ hb0).mono ?_
    rintro e w1 ⟨⟨A1, c1, rfl, o1⟩, hb1⟩
    go_wp2_with fail
    refine (HE2.out _ (bel2 hb1 hb0)).mono ?_
    rintro e w2 ⟨⟨A2, c2, rfl, o2⟩, hb2⟩
    go_wp2_with fail
    refine (apply_bin_t HES.out hd (bel2 hb2 (bel2 hb1 hb0)) g1 (own_low (own_below o1 hb2) hb0.size) g2 (own_low o2 (bel2 hb1 hb0).size)).mono ?_
    rintro e w9 ⟨⟨A, c, rfl, own⟩, hb⟩
    go_wp2
    go_ret
    exact ⟨⟨A, c, rfl, own⟩, hb⟩
set_option maxRecDepth 100000 in
set_option maxHeartbeats 4000000 in
theorem numeric_told (d : Nat) (hd : d ≤ 4) (hI : ExprTold d) (i D : Int) (cs : List Col) (l : List Int) (hco : ColsOk cs) (hcl : cs.length ≤ 1000) (h0 : 0 ≤ i) (h1 : 2 * i + 2 ≤ atB d) (hD : D - 1 = (d : Int)) : ∃ es, Good (colNm cs) (d + 1) es ∧ ∀ (C : Option Addr) (cc : Nat) (L : Option Addr) (lc : Nat) (W : World), ColsAt W C cs → IntsAt W L l →
      Calls Tryz.prog 220 #[.slice C cs.length cc, .slice L l.length lc, .int .i64 i, .int .i64 D] W fun e w' => OwnNds W w' es e ∧ Below W.heap.size W w' := by
  have htop := atB_le d
  have hn0 := lAt_nn l i
  have hn1 := lAt_top l i
  obtain ⟨n, hn⟩ : ∃ n, lAt l i = n := ⟨_, rfl⟩
  rw [hn] at hn0 hn1
  have k0 : 0 ≤ n / 9 := by omega
  have k1 : n / 9 ≤ 131072 := by omega
  by_cases e0 : n % 9 = 0
  · obtain ⟨es1, g1, H1⟩ := hI 2 (2 * i + 1) cs l hco hcl (by omega) (by omega)
    have hop : (⟨3, vl0, [], 0⟩ : Nd).ok = true ∧ (⟨3, vl0, [], 0⟩ : Nd).ar = 1 := ⟨rfl, rfl⟩
    obtain ⟨es, hes⟩ : ∃ es, es = es1 ++ [⟨3, vl0, [], 0⟩] := ⟨_, rfl⟩
    refine ⟨es, by rw [hes]; exact Good.un (by omega) g1 hop.1 hop.2, fun C cc L lc w hC hL => ?_⟩
    have HAt := hide (by have := base_At_any L l i w lc hL; rw [hn] at this; exact this)
    have HE1 := hide (fun W (hb : Below w.heap.size w W) => H1 C cc L lc W (hC.below hb) (hL.below hb))
    have HES := hide hes
    clear hes hC hL hI hn H1
    go_enter Tryz.func220, Tryz.ntmps220
    go_wp2_with (go_at_call 70; refine HAt.out.mono ?_; rintro e w0 ⟨rfl, hq⟩; have hb0 : Below w.heap.size w w0 := (by obtain ⟨q, rfl⟩ := hq; exact below_drewN (Below.refl _ _) q); clear hq HAt)
    refine (HE1.out _ hb0).mono ?_
    rintro e w1 ⟨⟨A1, c1, rfl, o1⟩, hb1⟩
    go_wp2_with fail
    refine (apply_un_t HES.out hd (bel2 hb1 hb0) g1 (own_low o1 hb0.size)).mono ?_
    rintro e w9 ⟨⟨A, c, rfl, own⟩, hb⟩
    go_wp2
    go_ret
    exact ⟨⟨A, c, rfl, own⟩, hb⟩
  by_cases e1 : n % 9 = 1
  · obtain ⟨es1, g1, H1⟩ := hI 3 (2 * i + 1) cs l hco hcl (by omega) (by omega)
    have hop : (⟨19, vl0, [], 0⟩ : Nd).ok = true ∧ (⟨19, vl0, [], 0⟩ : Nd).ar = 1 := ⟨rfl, rfl⟩
    obtain ⟨es, hes⟩ : ∃ es, es = es1 ++ [⟨19, vl0, [], 0⟩] := ⟨_, rfl⟩
    refine ⟨es, by rw [hes]; exact Good.un (by omega) g1 hop.1 hop.2, fun C cc L lc w hC hL => ?_⟩
    have HAt := hide (by have := base_At_any L l i w lc hL; rw [hn] at this; exact this)
    have HE1 := hide (fun W (hb : Below w.heap.size w W) => H1 C cc L lc W (hC.below hb) (hL.below hb))
    have HES := hide hes
    clear hes hC hL hI hn H1
    go_enter Tryz.func220, Tryz.ntmps220
    go_wp2_with (go_at_call 70; refine HAt.out.mono ?_; rintro e w0 ⟨rfl, hq⟩; have hb0 : Below w.heap.size w w0 := (by obtain ⟨q, rfl⟩ := hq; exact below_drewN (Below.refl _ _) q); clear hq HAt)
    refine (HE1.out _ hb0).mono ?_
    rintro e w1 ⟨⟨A1, c1, rfl, o1⟩, hb1⟩
    go_wp2_with fail
    refine (apply_un_t HES.out hd (bel2 hb1 hb0) g1 (own_low o1 hb0.size)).mono ?_
    rintro e w9 ⟨⟨A, c, rfl, own⟩, hb⟩
    go_wp2
    go_ret
    exact ⟨⟨A, c, rfl, own⟩, hb⟩
  by_cases e2 : n % 9 = 2
  · obtain ⟨x, hx, hxk⟩ := three_zones (n / 9 % 3).toNat (by omega)
    obtain ⟨i0, hi, hz0, hz1, hz2⟩ := info_parts Tryz.info_nd
    obtain ⟨es1, g1, H1⟩ := hI 4 (2 * i + 1) cs l hco hcl (by omega) (by omega)
    refine ⟨es1 ++ [⟨20, vl0, x, 0⟩], Good.un (by omega) g1 hxk rfl, fun C cc L lc w hC hL => ?_⟩
    have HAt := hide (by have := base_At_any L l i w lc hL; rw [hn] at this; exact this)
    have HE1 := hide (fun W (hb : Below w.heap.size w W) => H1 C cc L lc W (hC.below hb) (hL.below hb))
    clear hC hL hI hn H1
    go_enter Tryz.func220, Tryz.ntmps220
    go_wp2_with (go_at_call 70; refine HAt.out.mono ?_; rintro e w0 ⟨rfl, hq⟩; have hb0 : Below w.heap.size w w0 := (by obtain ⟨q, rfl⟩ := hq; exact below_drewN (Below.refl _ _) q); clear hq HAt)
    have hsz0 := hb0.size
    obtain ⟨hxl, hx2⟩ := List.getElem?_eq_some_iff.1 hx
    have ht1 : n.tdiv 9 = n / 9 := Int.tdiv_eq_ediv_of_nonneg hn0
    have hw9 : IntKind.i64.wrap (n / 9) = n / 9 := IntWalk.i64_in _ (by omega)
    have ht2 : (n / 9).tmod 3 = n / 9 % 3 := Int.tmod_eq_emod_of_nonneg k0
    have hm0 : 0 ≤ n / 9 % 3 := by omega
    have hm1 : n / 9 % 3 < 3 := by omega
    have hwd : IntKind.i64.wrap (d : Int) = (d : Int) := IntWalk.i64_in _ (by omega)
    first | (go_region_law (first
      | (go_simp; go_at_call 141; refine (HE1.out _ zX).mono ?_; rintro e w1 ⟨⟨A1, c1, rfl, o1⟩, hb1⟩; have hbw : Below w.heap.size w w1 := Below.trans zX (hb1.mono (by first | omega | (simp; done) | (simp; omega))); have hbw0 : Below w0.heap.size w0 w1 := Below.trans zX (hb1.mono (by first | (simp; done) | (simp; omega))); have o2 := own_low (b2 := w.heap.size) o1 (by first | (simp; done) | (simp; omega)); have hg := g1.short hd; have hsz1 := hbw0.size;
         (first
           | (have q9 := hb1.block (w0.heap.size + 1) (by (simp; done)); have hxb : w1.heap[w0.heap.size + 1]? = some (.cells #[.int .i64 20, .int .i64 0, .int .i64 0, str [], str x, .int .i64 0] 116) := q9.trans (heap_new_at (by simp)))
           | (have q8 := hb1.block w0.heap.size (by (simp; done)); have hxb : w1.heap[w0.heap.size]? = some (.cells #[Value.string ⟨#[122, 48]⟩, Value.string ⟨#[122, 49]⟩, Value.string ⟨#[122, 50]⟩] 9) := q8.trans (heap_alloc_new w0 _); have hxc : w1.cell? ⟨w0.heap.size, (n / 9 % 3).toNat, none⟩ = some (str x) := (by rw [cell_of_heap hxb]; simpa using hx))
           | skip))
      | (refine step_append_lies _ (by rfl) (.tmp 52) (.tmp 60) 25 (by rfl) w.heap.size 116 i0 _ 6 64 Tryz.underlying25 hi hz0 hz1 hz2 rfl (by omega) _ _ _ (by rfl) (own_below o2 zX) ⟨_, 0, none⟩ 1 1 [.int .i64 20, .int .i64 0, .int .i64 0, str [], str x, .int .i64 0] (by rfl) (by rfl) (by first | exact cells_6 hxb | exact cells_6 (heap_new_at (by simp))) (by simp [Value.oneCell']) (by omega) (by unfold maxLen; omega) (by omega) (by first | omega | (simp; done) | (simp; omega)) _ (by rfl) ?_; intro gg cap w3 hown3 hgrow hat hlt))) | fail
    all_goals
      have hb9 : Below w.heap.size w w3 := (show Below w.heap.size w _ from zX).grown hgrow (by first | omega | (simp; omega)) (fun k hk => (o2.lt k hk).1)
      have HP := hide (own_push ⟨20, vl0, x, 0⟩ hown3)
      clear hown3 hgrow
      go_wp2
      refine bodyPost_ret (v := .slice (some ⟨gg, 0, none⟩) (es1.length + 1) cap) (by simp [results, Tryz.results220, go_sem]) rfl ⟨⟨some ⟨gg, 0, none⟩, cap, by simp, HP.out⟩, hb9⟩
  by_cases e3 : n % 9 = 3
  · obtain ⟨es1, g1, H1⟩ := hI 4 (2 * i + 1) cs l hco hcl (by omega) (by omega)
    obtain ⟨es2, g2, H2⟩ := hI 4 (2 * i + 2) cs l hco hcl (by omega) (by omega)
    have hl2 := g2.short hd
    by_cases hu : unkS cs es2 = true
    · obtain ⟨m, hm1, hm2, hm3, HLf⟩ := leaf_told 2 (n / 9) cs hco hcl (by omega) (by omega)
      refine ⟨[m], Good.leaf _ hm1 hm2 hm3, fun C cc L lc w hC hL => ?_⟩
      have HAt := hide (by have := base_At_any L l i w lc hL; rw [hn] at this; exact this)
      have HE1 := hide (fun W (hb : Below w.heap.size w W) => H1 C cc L lc W (hC.below hb) (hL.below hb))
      have HE2 := hide (fun W (hb : Below w.heap.size w W) => H2 C cc L lc W (hC.below hb) (hL.below hb))
      have HU := hide (fun A2 c2 W (hb : Below w.heap.size w W) (hN : NdsAt W A2 es2) => by have := base_Unknown_s A2 es2 c2 C cs cc W hN (by omega) g2.names (hC.below hb) hcl; rw [hu] at this; exact this)
      have HLe := hide (fun W (hb : Below w.heap.size w W) => HLf C cc W (hC.below hb))
      clear hC hL hI hn H1 H2 HLf hu
      go_enter Tryz.func220, Tryz.ntmps220
      go_wp2_with (go_at_call 70; refine HAt.out.mono ?_; rintro e w0 ⟨rfl, hq⟩; have hb0 : Below w.heap.size w w0 := (by obtain ⟨q, rfl⟩ := hq; exact below_drewN (Below.refl _ _) q); clear hq HAt)
      refine (HE1.out _ hb0).mono ?_
      rintro e w1 ⟨⟨A1, c1, rfl, o1⟩, hb1⟩
      go_wp2_with fail
      refine (HE2.out _ (bel2 hb1 hb0)).mono ?_
      rintro e w2 ⟨⟨A2, c2, rfl, o2⟩, hb2⟩
      go_wp2_with fail
      have hbw2 := bel2 hb2 (bel2 hb1 hb0)
      refine (HU.out _ _ _ hbw2 (NdsAt_of_own o2)).mono ?_
      rintro e w4 ⟨rfl, hb4⟩
      have hbw4 := bel2 hb4 hbw2
      go_wp2_with fail
      refine (HLe.out _ hbw4).mono ?_
      rintro e w3 ⟨⟨A, c, rfl, own⟩, hb⟩
      go_wp2
      go_ret
      exact ⟨⟨A, c, rfl, own_low own hbw4.size⟩, bel2 hb hbw4⟩
    · have hu2 : unkS cs es2 = false := by simpa using hu
      obtain ⟨es, hes⟩ : ∃ es, es = es1 ++ es2 ++ [⟨5, vl0, [], 0⟩] := ⟨_, rfl⟩
      refine ⟨es, by rw [hes]; exact Good.bin (by omega) g1 g2 rfl rfl, fun C cc L lc w hC hL => ?_⟩
      have HAt := hide (by have := base_At_any L l i w lc hL; rw [hn] at this; exact this)
      have HE1 := hide (fun W (hb : Below w.heap.size w W) => H1 C cc L lc W (hC.below hb) (hL.below hb))
      have HE2 := hide (fun W (hb : Below w.heap.size w W) => H2 C cc L lc W (hC.below hb) (hL.below hb))
      have HU := hide (fun A2 c2 W (hb : Below w.heap.size w W) (hN : NdsAt W A2 es2) => by have := base_Unknown_s A2 es2 c2 C cs cc W hN (by omega) g2.names (hC.below hb) hcl; rw [hu2] at this; exact this)
      have HES := hide hes
      clear hes hC hL hI hn H1 H2 hu hu2
      go_enter Tryz.func220, Tryz.ntmps220
      go_wp2_with (go_at_call 70; refine HAt.out.mono ?_; rintro e w0 ⟨rfl, hq⟩; have hb0 : Below w.heap.size w w0 := (by obtain ⟨q, rfl⟩ := hq; exact below_drewN (Below.refl _ _) q); clear hq HAt)
      refine (HE1.out _ hb0).mono ?_
      rintro e w1 ⟨⟨A1, c1, rfl, o1⟩, hb1⟩
      go_wp2_with fail
      refine (HE2.out _ (bel2 hb1 hb0)).mono ?_
      rintro e w2 ⟨⟨A2, c2, rfl, o2⟩, hb2⟩
      go_wp2_with fail
      have hbw2 := bel2 hb2 (bel2 hb1 hb0)
      refine (HU.out _ _ _ hbw2 (NdsAt_of_own o2)).mono ?_
      rintro e w4 ⟨rfl, hb4⟩
      have hbw4 := bel2 hb4 hbw2
      go_wp2_with fail
      refine (apply_bin_t HES.out hd hbw4 g1 (own_low (own_below (own_below o1 hb2) hb4) hb0.size) g2 (own_low (own_below o2 hb4) (bel2 hb1 hb0).size)).mono ?_
      rintro e w3 ⟨⟨A, c, rfl, own⟩, hb⟩
      go_wp2
      go_ret
      exact ⟨⟨A, c, rfl, own⟩, hb⟩
  have f0 : (n % 9 == 0) = false := beq_eq_false_iff_ne.2 e0
  have f1 : (n % 9 == 1) = false := beq_eq_false_iff_ne.2 e1
  have f2 : (n % 9 == 2) = false := beq_eq_false_iff_ne.2 e2
  have f3 : (n % 9 == 3) = false := beq_eq_false_iff_ne.2 e3
  · obtain ⟨es1, g1, H1⟩ := hI 2 (2 * i + 1) cs l hco hcl (by omega) (by omega)
    obtain ⟨es2, g2, H2⟩ := hI 2 (2 * i + 2) cs l hco hcl (by omega) (by omega)
    have hop : (⟨(4 + n / 9 % 5), vl0, [], 0⟩ : Nd).ok = true ∧ (⟨(4 + n / 9 % 5), vl0, [], 0⟩ : Nd).ar = 2 := op_bin (by omega) (by omega)
    obtain ⟨es, hes⟩ : ∃ es, es = es1 ++ es2 ++ [⟨(4 + n / 9 % 5), vl0, [], 0⟩] := ⟨_, rfl⟩
    refine ⟨es, by rw [hes]; exact Good.bin (by omega) g1 g2 hop.1 hop.2, fun C cc L lc w hC hL => ?_⟩
    have HAt := hide (by have := base_At_any L l i w lc hL; rw [hn] at this; exact this)
    have HE1 := hide (fun W (hb : Below w.heap.size w W) => H1 C cc L lc W (hC.below hb) (hL.below hb))
    have HE2 := hide (fun W (hb : Below w.heap.size w W) => H2 C cc L lc W (hC.below hb) (hL.below hb))
    have HES := hide hes
    clear e0 e1 e2 e3 hes hC hL hI hn H1 H2
    go_enter Tryz.func220, Tryz.ntmps220
    go_wp2_with (go_at_call 70; refine HAt.out.mono ?_; rintro e w0 ⟨rfl, hq⟩; have hb0 : Below w.heap.size w w0 := (by obtain ⟨q, rfl⟩ := hq; exact below_drewN (Below.refl _ _) q); clear hq HAt)
    refine (HE1.out _ hb0).mono ?_
    rintro e w1 ⟨⟨A1, c1, rfl, o1⟩, hb1⟩
    go_wp2_with fail
    refine (HE2.out _ (bel2 hb1 hb0)).mono ?_
    rintro e w2 ⟨⟨A2, c2, rfl, o2⟩, hb2⟩
    go_wp2_with fail
    refine (apply_bin_t HES.out hd (bel2 hb2 (bel2 hb1 hb0)) g1 (own_low (own_below o1 hb2) hb0.size) g2 (own_low o2 (bel2 hb1 hb0).size)).mono ?_
    rintro e w9 ⟨⟨A, c, rfl, own⟩, hb⟩
    go_wp2
    go_ret
    exact ⟨⟨A, c, rfl, own⟩, hb⟩
set_option maxRecDepth 100000 in
set_option maxHeartbeats 2000000 in
theorem Expr_told_zero : ExprTold 0 := by
  intro kind i cs l hco hcl h0 h1
  have htop := atB_le 0
  have hn0 := lAt_nn l i
  have hn1 := lAt_top l i
  obtain ⟨n, hn⟩ : ∃ n, lAt l i = n := ⟨_, rfl⟩
  rw [hn] at hn0 hn1
  have k0 : 0 ≤ n / 5 := by omega
  have k1 : n / 5 ≤ 131072 := by omega
  obtain ⟨m, hm1, hm2, hm3, HLf⟩ := leaf_told kind (n / 5) cs hco hcl (by omega) (by omega)
  refine ⟨[m], Good.leaf _ hm1 hm2 hm3, fun C cc L lc w hC hL => ?_⟩
  have HAt := hide (by have := base_At_any L l i w lc hL; rw [hn] at this; exact this)
  have HLe := hide (fun W (hb : Below w.heap.size w W) => HLf C cc W (hC.below hb))
  clear hC hL hn HLf
  go_enter Tryz.func141, Tryz.ntmps141
  go_wp2_with (go_at_call 70; refine HAt.out.mono ?_; rintro e w0 ⟨rfl, hq⟩; have hb0 : Below w.heap.size w w0 := (by obtain ⟨q, rfl⟩ := hq; exact below_drewN (Below.refl _ _) q); clear hq HAt)
  refine (HLe.out _ hb0).mono ?_
  rintro e w3 ⟨⟨A, c, rfl, own⟩, hb⟩
  go_wp2
  go_ret
  exact ⟨⟨A, c, rfl, own_low own hb0.size⟩, bel2 hb hb0⟩
set_option maxRecDepth 100000 in
set_option maxHeartbeats 4000000 in
theorem Expr_told_succ (d : Nat) (hd3 : d ≤ 3) (hI : ExprTold d) : ExprTold (d + 1) := by
  intro kind i cs l hco hcl h0 h1
  have h2 := atB_step h1
  have htop := atB_le d
  have hn0 := lAt_nn l i
  have hn1 := lAt_top l i
  obtain ⟨n, hn⟩ : ∃ n, lAt l i = n := ⟨_, rfl⟩
  rw [hn] at hn0 hn1
  have k0 : 0 ≤ n / 5 := by omega
  have k1 : n / 5 ≤ 131072 := by omega
  obtain ⟨D, hDd⟩ : ∃ D : Int, D = ((d + 1 : Nat) : Int) := ⟨_, rfl⟩
  have hD : D - 1 = (d : Int) := by omega
  have hD0 : 0 < D := by omega
  have hD4 : D ≤ 4 := by omega
  have hDz : decide (D ≤ 0) = false := by simp; omega
  rw [← hDd]
  have hd : d ≤ 4 := by omega
  clear hDd h1
  by_cases e0 : n % 5 = 0
  · obtain ⟨m, hm1, hm2, hm3, HLf⟩ := leaf_told kind (n / 5) cs hco hcl (by omega) (by omega)
    refine ⟨[m], Good.leaf _ hm1 hm2 hm3, fun C cc L lc w hC hL => ?_⟩
    have HAt := hide (by have := base_At_any L l i w lc hL; rw [hn] at this; exact this)
    have HLe := hide (fun W (hb : Below w.heap.size w W) => HLf C cc W (hC.below hb))
    clear hC hL hn HLf
    go_enter Tryz.func141, Tryz.ntmps141
    go_wp2_with (go_at_call 70; refine HAt.out.mono ?_; rintro e w0 ⟨rfl, hq⟩; have hb0 : Below w.heap.size w w0 := (by obtain ⟨q, rfl⟩ := hq; exact below_drewN (Below.refl _ _) q); clear hq HAt)
    refine (HLe.out _ hb0).mono ?_
    rintro e w3 ⟨⟨A, c, rfl, own⟩, hb⟩
    go_wp2
    go_ret
    exact ⟨⟨A, c, rfl, own_low own hb0.size⟩, bel2 hb hb0⟩
  have f0 : (n % 5 == 0) = false := beq_eq_false_iff_ne.2 e0
  by_cases e1 : n % 5 = 1
  · obtain ⟨es1, g1, H1⟩ := hI 1 (3 * i + 1) cs l hco hcl (by omega) (by omega)
    obtain ⟨es2, g2, H2⟩ := hI kind (3 * i + 2) cs l hco hcl (by omega) (by omega)
    obtain ⟨es3, g3, H3⟩ := hI kind (3 * i + 3) cs l hco hcl (by omega) (by omega)
    have hop : (⟨17, vl0, [], 0⟩ : Nd).ok = true ∧ (⟨17, vl0, [], 0⟩ : Nd).ar = 3 := ⟨rfl, rfl⟩
    obtain ⟨es, hes⟩ : ∃ es, es = es1 ++ es2 ++ es3 ++ [⟨17, vl0, [], 0⟩] := ⟨_, rfl⟩
    refine ⟨es, by rw [hes]; exact Good.tri (by omega) g1 g2 g3 hop.1 hop.2, fun C cc L lc w hC hL => ?_⟩
    have HAt := hide (by have := base_At_any L l i w lc hL; rw [hn] at this; exact this)
    have HE1 := hide (fun W (hb : Below w.heap.size w W) => H1 C cc L lc W (hC.below hb) (hL.below hb))
    have HE2 := hide (fun W (hb : Below w.heap.size w W) => H2 C cc L lc W (hC.below hb) (hL.below hb))
    have HE3 := hide (fun W (hb : Below w.heap.size w W) => H3 C cc L lc W (hC.below hb) (hL.below hb))
    have HES := hide hes
    clear hes hC hL hI hn H1 H2 H3
    go_enter Tryz.func141, Tryz.ntmps141
    go_wp2_with (go_at_call 70; refine HAt.out.mono ?_; rintro e w0 ⟨rfl, hq⟩; have hb0 : Below w.heap.size w w0 := (by obtain ⟨q, rfl⟩ := hq; exact below_drewN (Below.refl _ _) q); clear hq HAt)
    refine (HE1.out _ hb0).mono ?_
    rintro e w1 ⟨⟨A1, c1, rfl, o1⟩, hb1⟩
    go_wp2_with fail
    refine (HE2.out _ (bel2 hb1 hb0)).mono ?_
    rintro e w2 ⟨⟨A2, c2, rfl, o2⟩, hb2⟩
    go_wp2_with fail
    refine (HE3.out _ (bel2 hb2 (bel2 hb1 hb0))).mono ?_
    rintro e w3 ⟨⟨A3, c3, rfl, o3⟩, hb3⟩
    go_wp2_with fail
    refine (apply_tri_t HES.out hd (bel2 hb3 (bel2 hb2 (bel2 hb1 hb0))) g1 (own_low (own_below (own_below o1 hb2) hb3) hb0.size) g2 (own_low (own_below o2 hb3) (bel2 hb1 hb0).size) g3 (own_low o3 (bel2 hb2 (bel2 hb1 hb0)).size)).mono ?_
    rintro e w9 ⟨⟨A, c, rfl, own⟩, hb⟩
    go_wp2
    go_ret
    exact ⟨⟨A, c, rfl, own⟩, hb⟩
  have f1 : (n % 5 == 1) = false := beq_eq_false_iff_ne.2 e1
  by_cases e2 : n % 5 = 2
  · obtain ⟨es1, g1, H1⟩ := hI kind (3 * i + 1) cs l hco hcl (by omega) (by omega)
    obtain ⟨es2, g2, H2⟩ := hI kind (3 * i + 2) cs l hco hcl (by omega) (by omega)
    have hop : (⟨18, vl0, [], 0⟩ : Nd).ok = true ∧ (⟨18, vl0, [], 0⟩ : Nd).ar = 2 := ⟨rfl, rfl⟩
    obtain ⟨es, hes⟩ : ∃ es, es = es1 ++ es2 ++ [⟨18, vl0, [], 0⟩] := ⟨_, rfl⟩
    refine ⟨es, by rw [hes]; exact Good.bin (by omega) g1 g2 hop.1 hop.2, fun C cc L lc w hC hL => ?_⟩
    have HAt := hide (by have := base_At_any L l i w lc hL; rw [hn] at this; exact this)
    have HE1 := hide (fun W (hb : Below w.heap.size w W) => H1 C cc L lc W (hC.below hb) (hL.below hb))
    have HE2 := hide (fun W (hb : Below w.heap.size w W) => H2 C cc L lc W (hC.below hb) (hL.below hb))
    have HES := hide hes
    clear hes hC hL hI hn H1 H2
    go_enter Tryz.func141, Tryz.ntmps141
    go_wp2_with (go_at_call 70; refine HAt.out.mono ?_; rintro e w0 ⟨rfl, hq⟩; have hb0 : Below w.heap.size w w0 := (by obtain ⟨q, rfl⟩ := hq; exact below_drewN (Below.refl _ _) q); clear hq HAt)
    refine (HE1.out _ hb0).mono ?_
    rintro e w1 ⟨⟨A1, c1, rfl, o1⟩, hb1⟩
    go_wp2_with fail
    refine (HE2.out _ (bel2 hb1 hb0)).mono ?_
    rintro e w2 ⟨⟨A2, c2, rfl, o2⟩, hb2⟩
    go_wp2_with fail
    refine (apply_bin_t HES.out hd (bel2 hb2 (bel2 hb1 hb0)) g1 (own_low (own_below o1 hb2) hb0.size) g2 (own_low o2 (bel2 hb1 hb0).size)).mono ?_
    rintro e w9 ⟨⟨A, c, rfl, own⟩, hb⟩
    go_wp2
    go_ret
    exact ⟨⟨A, c, rfl, own⟩, hb⟩
  have f2 : (n % 5 == 2) = false := beq_eq_false_iff_ne.2 e2
  clear e0 e1 e2
  by_cases r1 : kind = 1
  · subst r1
    obtain ⟨es, g, H1⟩ := logical_told d (by omega) hI (3 * i + 1) D cs l hco hcl (by omega) (by omega) hD
    refine ⟨es, g, fun C cc L lc w hC hL => ?_⟩
    have HAt := hide (by have := base_At_any L l i w lc hL; rw [hn] at this; exact this)
    have HE1 := hide (fun W (hb : Below w.heap.size w W) => H1 C cc L lc W (hC.below hb) (hL.below hb))
    clear hC hL hI hn H1
    go_enter Tryz.func141, Tryz.ntmps141
    go_wp2_with (go_at_call 70; refine HAt.out.mono ?_; rintro e w0 ⟨rfl, hq⟩; have hb0 : Below w.heap.size w w0 := (by obtain ⟨q, rfl⟩ := hq; exact below_drewN (Below.refl _ _) q); clear hq HAt)
    refine (HE1.out _ hb0).mono ?_
    rintro e w3 ⟨⟨A, c, rfl, own⟩, hb⟩
    go_wp2
    go_ret
    exact ⟨⟨A, c, rfl, own_low own hb0.size⟩, bel2 hb hb0⟩
  have s1 : (kind == 1) = false := beq_eq_false_iff_ne.2 r1
  by_cases r2 : kind = 2
  · subst r2
    obtain ⟨es, g, H1⟩ := numeric_told d (by omega) hI (3 * i + 1) D cs l hco hcl (by omega) (by omega) hD
    refine ⟨es, g, fun C cc L lc w hC hL => ?_⟩
    have HAt := hide (by have := base_At_any L l i w lc hL; rw [hn] at this; exact this)
    have HE1 := hide (fun W (hb : Below w.heap.size w W) => H1 C cc L lc W (hC.below hb) (hL.below hb))
    clear hC hL hI hn H1
    go_enter Tryz.func141, Tryz.ntmps141
    go_wp2_with (go_at_call 70; refine HAt.out.mono ?_; rintro e w0 ⟨rfl, hq⟩; have hb0 : Below w.heap.size w w0 := (by obtain ⟨q, rfl⟩ := hq; exact below_drewN (Below.refl _ _) q); clear hq HAt)
    refine (HE1.out _ hb0).mono ?_
    rintro e w3 ⟨⟨A, c, rfl, own⟩, hb⟩
    go_wp2
    go_ret
    exact ⟨⟨A, c, rfl, own_low own hb0.size⟩, bel2 hb hb0⟩
  have s2 : (kind == 2) = false := beq_eq_false_iff_ne.2 r2
  by_cases r3 : kind = 3
  · subst r3
    obtain ⟨es1, g1, H1⟩ := hI 3 (3 * i + 1) cs l hco hcl (by omega) (by omega)
    obtain ⟨es2, g2, H2⟩ := hI 3 (3 * i + 2) cs l hco hcl (by omega) (by omega)
    have hop : (⟨9, vl0, [], 0⟩ : Nd).ok = true ∧ (⟨9, vl0, [], 0⟩ : Nd).ar = 2 := ⟨rfl, rfl⟩
    obtain ⟨es, hes⟩ : ∃ es, es = es1 ++ es2 ++ [⟨9, vl0, [], 0⟩] := ⟨_, rfl⟩
    refine ⟨es, by rw [hes]; exact Good.bin (by omega) g1 g2 hop.1 hop.2, fun C cc L lc w hC hL => ?_⟩
    have HAt := hide (by have := base_At_any L l i w lc hL; rw [hn] at this; exact this)
    have HE1 := hide (fun W (hb : Below w.heap.size w W) => H1 C cc L lc W (hC.below hb) (hL.below hb))
    have HE2 := hide (fun W (hb : Below w.heap.size w W) => H2 C cc L lc W (hC.below hb) (hL.below hb))
    have HES := hide hes
    clear hes hC hL hI hn H1 H2
    go_enter Tryz.func141, Tryz.ntmps141
    go_wp2_with (go_at_call 70; refine HAt.out.mono ?_; rintro e w0 ⟨rfl, hq⟩; have hb0 : Below w.heap.size w w0 := (by obtain ⟨q, rfl⟩ := hq; exact below_drewN (Below.refl _ _) q); clear hq HAt)
    refine (HE1.out _ hb0).mono ?_
    rintro e w1 ⟨⟨A1, c1, rfl, o1⟩, hb1⟩
    go_wp2_with fail
    refine (HE2.out _ (bel2 hb1 hb0)).mono ?_
    rintro e w2 ⟨⟨A2, c2, rfl, o2⟩, hb2⟩
    go_wp2_with fail
    refine (apply_bin_t HES.out hd (bel2 hb2 (bel2 hb1 hb0)) g1 (own_low (own_below o1 hb2) hb0.size) g2 (own_low o2 (bel2 hb1 hb0).size)).mono ?_
    rintro e w9 ⟨⟨A, c, rfl, own⟩, hb⟩
    go_wp2
    go_ret
    exact ⟨⟨A, c, rfl, own⟩, hb⟩
  have s3 : (kind == 3) = false := beq_eq_false_iff_ne.2 r3
  clear r1 r2 r3
  · obtain ⟨es1, g1, H1⟩ := hI 4 (3 * i + 1) cs l hco hcl (by omega) (by omega)
    have hl1 := g1.short hd
    by_cases hu : unkS cs es1 = true
    · refine ⟨es1, g1.mono, fun C cc L lc w hC hL => ?_⟩
      have HAt := hide (by have := base_At_any L l i w lc hL; rw [hn] at this; exact this)
      have HE1 := hide (fun W (hb : Below w.heap.size w W) => H1 C cc L lc W (hC.below hb) (hL.below hb))
      have HU := hide (fun A2 c2 W (hb : Below w.heap.size w W) (hN : NdsAt W A2 es1) => by have := base_Unknown_s A2 es1 c2 C cs cc W hN (by omega) g1.names (hC.below hb) hcl; rw [hu] at this; exact this)
      clear hC hL hI hn H1 hu
      go_enter Tryz.func141, Tryz.ntmps141
      go_wp2_with (go_at_call 70; refine HAt.out.mono ?_; rintro e w0 ⟨rfl, hq⟩; have hb0 : Below w.heap.size w w0 := (by obtain ⟨q, rfl⟩ := hq; exact below_drewN (Below.refl _ _) q); clear hq HAt)
      refine (HE1.out _ hb0).mono ?_
      rintro e w1 ⟨⟨A1, c1, rfl, o1⟩, hb1⟩
      go_wp2_with fail
      have hbw1 := bel2 hb1 hb0
      refine (HU.out _ _ _ hbw1 (NdsAt_of_own o1)).mono ?_
      rintro e w4 ⟨rfl, hb4⟩
      have hbw4 := bel2 hb4 hbw1
      go_wp2
      go_ret
      exact ⟨⟨A1, c1, rfl, own_low (own_below o1 hb4) hb0.size⟩, hbw4⟩
    · have hu2 : unkS cs es1 = false := by simpa using hu
      obtain ⟨es2, g2, H2⟩ := hI 2 (3 * i + 2) cs l hco hcl (by omega) (by omega)
      have hop := op_bin (op := 4 + n / 5 % 2) (by omega) (by omega)
      obtain ⟨es, hes⟩ : ∃ es, es = es1 ++ es2 ++ [⟨4 + n / 5 % 2, vl0, [], 0⟩] := ⟨_, rfl⟩
      refine ⟨es, by rw [hes]; exact Good.bin (by omega) g1 g2 hop.1 hop.2, fun C cc L lc w hC hL => ?_⟩
      have HAt := hide (by have := base_At_any L l i w lc hL; rw [hn] at this; exact this)
      have HE1 := hide (fun W (hb : Below w.heap.size w W) => H1 C cc L lc W (hC.below hb) (hL.below hb))
      have HE2 := hide (fun W (hb : Below w.heap.size w W) => H2 C cc L lc W (hC.below hb) (hL.below hb))
      have HU := hide (fun A2 c2 W (hb : Below w.heap.size w W) (hN : NdsAt W A2 es1) => by have := base_Unknown_s A2 es1 c2 C cs cc W hN (by omega) g1.names (hC.below hb) hcl; rw [hu2] at this; exact this)
      have HES := hide hes
      clear hes hC hL hI hn H1 H2 hu hu2 hop
      go_enter Tryz.func141, Tryz.ntmps141
      go_wp2_with (go_at_call 70; refine HAt.out.mono ?_; rintro e w0 ⟨rfl, hq⟩; have hb0 : Below w.heap.size w w0 := (by obtain ⟨q, rfl⟩ := hq; exact below_drewN (Below.refl _ _) q); clear hq HAt)
      refine (HE1.out _ hb0).mono ?_
      rintro e w1 ⟨⟨A1, c1, rfl, o1⟩, hb1⟩
      go_wp2_with fail
      have hbw1 := bel2 hb1 hb0
      refine (HU.out _ _ _ hbw1 (NdsAt_of_own o1)).mono ?_
      rintro e w4 ⟨rfl, hb4⟩
      have hbw4 := bel2 hb4 hbw1
      go_wp2_with fail
      refine (HE2.out _ hbw4).mono ?_
      rintro e w2 ⟨⟨A2, c2, rfl, o2⟩, hb2⟩
      go_wp2_with fail
      refine (apply_bin_t HES.out hd (bel2 hb2 hbw4) g1 (own_low (own_below (own_below o1 hb4) hb2) hb0.size) g2 (own_low o2 hbw4.size)).mono ?_
      rintro e w3 ⟨⟨A, c, rfl, own⟩, hb⟩
      go_wp2
      go_ret
      exact ⟨⟨A, c, rfl, own⟩, hb⟩
theorem Expr_told : ∀ d : Nat, d ≤ 4 → ExprTold d
  | 0, _ => Expr_told_zero
  | d + 1, h => Expr_told_succ d (by omega) (Expr_told d (by omega))
end Go.Proofs.YtmbeeefkpgfgmaaGreatDoor
