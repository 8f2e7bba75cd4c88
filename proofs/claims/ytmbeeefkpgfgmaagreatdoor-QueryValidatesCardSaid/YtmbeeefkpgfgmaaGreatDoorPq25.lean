/- Contract, told: base.Step, the kind window. -/
import Derived.Test.YtmbeeefkpgfgmaaGreatDoorPq22
import Derived.Test.YtmbeeefkpgfgmaaGreatDoorPq07
import Derived.Deep.Cut
import Derived.Deep.CutRange
import Derived.Deep.RegionHeld3
import Derived.RegionTactic
import Derived.ChangeAlike
import Derived.BigRegion
set_option linter.unusedVariables false
set_option linter.unusedSimpArgs false
namespace Go.Proofs.YtmbeeefkpgfgmaaGreatDoor
open Go.RowKit
structure OrdS (w wN V : World) (x : It) (lo : List Bytes) (i1 i5 i7 : Option Nat) : Prop where
  b : Below wN.heap.size wN V
  c : Below (w.heap.size + 1) (w.alloc (.cells #[.int .i64 0, str [], .slice none 0 0, .slice none 0 0, .slice none 0 0, .slice none 0 0] 27)) V
  l : w.heap.size < V.heap.size
  h1 : ∀ ib, i1 = some ib → Firm (fun W => ItsAt W (some ⟨ib, 0, none⟩) [x]) V
  h5 : ∀ A, i5 = some A → Firm (fun W => StrsAt W (some ⟨A, 0, none⟩) lo) V
  h7 : ∀ b, i7 = some b → w.heap.size < b ∧ wN.heap.size ≤ b ∧ V.heap[b]? = some (.cells #[.int .i64 0, str [], .slice none 0 0, .slice none 0 0, .slice none 0 0, .slice none 0 0] 27)
theorem OrdS.lt {w V : World} (h : Below (w.heap.size + 1) (w.alloc (.cells #[.int .i64 0, str [], .slice none 0 0, .slice none 0 0, .slice none 0 0, .slice none 0 0] 27)) V) : w.heap.size < V.heap.size := by have h9 := h.size; rw [World.size_alloc] at h9; exact h9
theorem OrdS.more {w wN V : World} {x : It} {lo : List Bytes} {i1 i5 i7 : Option Nat} (h : OrdS w wN V x lo i1 i5 i7) (o : Obj) : OrdS w wN (V.alloc o) x lo i1 i5 i7 :=
  have hb : Below V.heap.size V (V.alloc o) := (Below.refl _ _).alloc (Nat.le_refl _) o
  ⟨h.b.alloc h.b.size o, h.c.alloc h.l o, OrdS.lt (h.c.alloc h.l o), fun ib e => (h.h1 ib e).below hb, fun A e => (h.h5 A e).below hb, fun b e => ⟨(h.h7 b e).1, (h.h7 b e).2.1, alloc_old (h.h7 b e).2.2⟩⟩
theorem OrdS.one {w wN V : World} {fn cx : Bytes} {f nx : Int} {lo : List Bytes} {i5 i7 : Option Nat} (h : OrdS w wN V ⟨fn, f, cx, nx, []⟩ lo none i5 i7) : OrdS w wN (V.alloc (.cells #[str fn, .int .i64 f, str cx, .int .i64 nx, .slice none 0 0] 61)) ⟨fn, f, cx, nx, []⟩ lo (some V.heap.size) i5 i7 :=
  { h.more _ with h1 := fun ib e => (by injection e with e; subst e; exact firm_item (w := V) (x := ⟨fn, f, cx, nx, []⟩) (E := none) (ec := 0) (firm_noNd _)) }
theorem OrdS.seven {w wN V : World} {x : It} {lo : List Bytes} {i1 i5 : Option Nat} (h : OrdS w wN V x lo i1 i5 none) : OrdS w wN (V.alloc (.cells #[.int .i64 0, str [], .slice none 0 0, .slice none 0 0, .slice none 0 0, .slice none 0 0] 27)) x lo i1 i5 (some V.heap.size) :=
  { h.more _ with h7 := fun b e => by injection e with e; subst e; exact ⟨h.l, h.b.size, heap_alloc_new _ _⟩ }
theorem OrdS.five {w wN V V' : World} {x : It} {lo : List Bytes} {i1 i7 : Option Nat} {A : Nat} (h : OrdS w wN V x lo i1 none i7) (hb : Below V.heap.size V V') (hh : V'.heap[A]? = some (.cells (lo.map str).toArray 9)) : OrdS w wN V' x lo i1 (some A) i7 :=
  ⟨bel2 hb h.b, below_go h.c (by simp) hb, OrdS.lt (below_go h.c (by simp) hb), fun ib e => (h.h1 ib e).below hb, fun a e => by injection e with e; subst e; exact firm_strs hh, fun b e => ⟨(h.h7 b e).1, (h.h7 b e).2.1, (hb.block _ (lt_of_heap (h.h7 b e).2.2)).trans (h.h7 b e).2.2⟩⟩
def WinS (w wx : World) (x : It) (lo : List Bytes) (b A ib : Nat) : Prop :=
  w.heap.size < b ∧ wx.heap[b]? = some (.cells #[.int .i64 12, str [], .slice none 0 0, .slice (some ⟨A, 0, none⟩) lo.length lo.length, .slice (some ⟨ib, 0, none⟩) 1 1, .slice none 0 0] 27) ∧ Below (w.heap.size + 1) (w.alloc (.cells #[.int .i64 0, str [], .slice none 0 0, .slice none 0 0, .slice none 0 0, .slice none 0 0] 27)) wx ∧
    Firm (fun W => StrsAt W (some ⟨A, 0, none⟩) lo) wx ∧ Firm (fun W => ItsAt W (some ⟨ib, 0, none⟩) [x]) wx
theorem OrdS.fin {w wN V : World} {x : It} {lo : List Bytes} {b A ib : Nat} (h : OrdS w wN V x lo (some ib) (some A) (some b)) :
    WinS w ((((((V.setCell ⟨b, 0, none⟩ (.int .i64 12)).setCell ⟨b, 1, none⟩ (str [])).setCell ⟨b, 2, none⟩ (.slice none 0 0)).setCell ⟨b, 3, none⟩ (.slice (some ⟨A, 0, none⟩) lo.length lo.length)).setCell ⟨b, 4, none⟩ (.slice (some ⟨ib, 0, none⟩) 1 1)).setCell ⟨b, 5, none⟩ (.slice none 0 0)) x lo b A ib := by
  obtain ⟨k1, k2, k3⟩ := h.h7 b rfl
  exact ⟨k1, set6_heap k3 _ _ _ _ _ _, below_set6 h.c k1 _ _ _ _ _ _, (h.h5 A rfl).keep (keep_set6 k3 _ _ _ _ _ _), (h.h1 ib rfl).keep (keep_set6 k3 _ _ _ _ _ _)⟩
set_option maxRecDepth 100000 in
set_option maxHeartbeats 16000000 in
theorem step_win (cs : List Col) (rs : List Rel) (l : List Int) (i : Int) (hg : ColG cs) (hr : RelG rs) (h0 : 0 ≤ i) (h1 : i ≤ 1000) (f : Int) (col num : Bool) (hfv : [Value.int .i64 1, Value.int .i64 3, Value.int .i64 8, Value.int .i64 9, Value.int .i64 10, Value.int .i64 11, Value.int .i64 12, Value.int .i64 13][(lAt l i / 13 % 8).toNat]? = some (.int .i64 f)) (hwf : winB f = (true, col, num)) (hcn : num = true → col = true) (hres : lAt l i % 13 = 11 ∨ lAt l i % 13 = 12) : StepTold cs rs l i := by
  have n0 := lAt_nn l i
  have n1 := lAt_top l i
  have k0 := lAt_nn l (i + 1)
  have k1 := lAt_top l (i + 1)
  have hcl := hg.le
  have hcp := hg.pos
  have hrp := hr.pos
  have hrl := hr.le
  obtain ⟨m, hm, hml⟩ : ∃ m : Nat, lAt l (i + 1) % (rs.length : Int) = m ∧ m < rs.length := ⟨(lAt l (i + 1) % (rs.length : Int)).toNat, by have := Int.emod_nonneg (lAt l (i + 1)) (show (rs.length : Int) ≠ 0 by omega); omega, by have := Int.emod_lt_of_pos (lAt l (i + 1)) (show (0 : Int) < rs.length by omega); have := Int.emod_nonneg (lAt l (i + 1)) (show (rs.length : Int) ≠ 0 by omega); omega⟩
  refine ⟨⟨12, [], if 0 < lAt l (i + 1) / 64 % 4 then somS cs (lAt l (i + 1) / 16) else [], somS cs (lAt l (i + 1) / 8), [⟨freS cs (lAt l (i + 1)), f, if col = true then namS cs (lAt l (i + 1) / 4) else [], if num = true then 1 + lAt l (i + 1) % 3 else 0, []⟩], []⟩, ⟨Nat.zero_le _, (by show List.length _ ≤ _; split; exact Nat.le_trans (som_len _ _).2 (by omega); exact Nat.zero_le _), Nat.le_trans (som_len _ _).2 (by omega), by simp, fun x hx => by simp at hx; subst hx; exact ⟨fun n hn => (List.not_mem_nil hn).elim, Nat.zero_le _⟩, Nat.zero_le _, fun x hx => (List.not_mem_nil hx).elim⟩, (by intro h9; cases h9), fun x hx => by simp at hx; subst hx; exact (freS_ok _ hcl).1, fun C cc R rc L lc w hC hR hL => ?_⟩
  have HA1 := hide (fun W (hb : Below w.heap.size w W) => at_below L l i W lc (hL.below hb))
  have HA2 := hide (fun W (hb : Below w.heap.size w W) => at_below L l (i + 1) W lc (hL.below hb))
  have HG := hide hg
  have HF := hide (fun W (hb : Below w.heap.size w W) => base_fresh_any C cs cc (lAt l (i + 1)) W (hC.below hb) hcl (by omega) (by omega))
  generalize freS cs (lAt l (i + 1)) = fn at *
  have HN := hide (fun W (hb : Below w.heap.size w W) => base_name_any C cs cc (lAt l (i + 1) / 4) W (hC.below hb) hcp hcl (by omega) (by omega))
  generalize namS cs (lAt l (i + 1) / 4) = cn at *
  have HO := hide (fun W (hb : Below w.heap.size w W) => base_some_any C cs cc (lAt l (i + 1) / 8) W (hC.below hb) hcp hcl (by omega) (by omega))
  generalize somS cs (lAt l (i + 1) / 8) = lo at *
  have HM := hide (fun W (hb : Below w.heap.size w W) => base_some_any C cs cc (lAt l (i + 1) / 16) W (hC.below hb) hcp hcl (by omega) (by omega))
  generalize somS cs (lAt l (i + 1) / 16) = ls at *
  have HWn := hide (show ∀ W, Calls Tryz.prog 105 #[.int .i64 f] W (fun e w' => e = .returned (.tuple #[.bool true, .bool col, .bool num]) ∧ W = w') from fun W => by have h := ref11_Windowed_any f W; rw [hwf] at h; exact h)
  rcases hR with e | ⟨gr, or, rfl, hgr, hcr⟩
  · exact absurd hrp (by rw [e]; simp)
  obtain ⟨D, dc, r0, r1, r2, r3, hD⟩ := hcr m hml
  have HD := hide hD
  have hb0 : (0 : Int) ≤ (m : Int) ∧ (m : Int) < (rs.length : Int) := by omega
  have hz : ¬ (rs.length : Int) = 0 := by omega
  have h00 := Below.refl w.heap.size w
  clear hcr hD hC hL hg hr
  generalize hn : lAt l i = n at *
  generalize hk : lAt l (i + 1) = k at *
  clear hn hk
  obtain ⟨lx, hlx⟩ : ∃ x, x = (if 0 < k / 64 % 4 then ls else []) := ⟨_, rfl⟩
  obtain ⟨cx, hcx⟩ : ∃ x, x = (if col = true then cn else []) := ⟨_, rfl⟩
  obtain ⟨nx, hnx⟩ : ∃ x, x = (if num = true then 1 + k % 3 else 0) := ⟨_, rfl⟩
  rw [← hlx, ← hcx, ← hnx]
  have HLx := hide hlx
  have HCx := hide hcx
  have HNx := hide hnx
  have HCN := hide hcn
  clear hlx hcx hnx hcn
  generalize rs[m] = rel at *
  obtain ⟨rn, rcs⟩ := rel
  simp only at r0 r1 HD
  clear hwf
  have hk8 : IntKind.i64.wrap (k.tdiv 8) = k / 8 := IntWalk.i64_quo k 8 (by omega)
  have p0 : ¬ n % 13 = 0 := by omega
  have p1 : ¬ n % 13 = 1 := by omega
  have p2 : ¬ n % 13 = 2 := by omega
  have p3 : ¬ n % 13 = 3 := by omega
  have p4 : ¬ n % 13 = 4 := by omega
  have p5 : ¬ n % 13 = 5 := by omega
  have p6 : ¬ n % 13 = 6 := by omega
  have p7 : ¬ n % 13 = 7 := by omega
  have p8 : ¬ n % 13 = 8 := by omega
  have p9 : ¬ n % 13 = 9 := by omega
  have p10 : ¬ n % 13 = 10 := by omega
  clear hres
  go_enter Tryz.func83, Tryz.ntmps83
  go_upto_region 30 with (first
      | (go_at_call 70; have _h := h00; refine (HA1.out _ zY).mono ?_; rintro e w1 ⟨rfl, hb1⟩; clear h00 _h; have hc1 : Below (w.heap.size + 1) (w.alloc (.cells #[.int .i64 0, str [], .slice none 0 0, .slice none 0 0, .slice none 0 0, .slice none 0 0] 27)) w1 := below_go (Below.refl _ _) (by simp) hb1; have hw1 := box_below hc1; clear hb1)
      | (go_at_call 70; refine (HA2.out _ hw1).mono ?_; rintro e w2 ⟨rfl, hb2⟩; have hc2 := below_go hc1 (by simp) hb2; have hw2 := box_below hc2; have t0 := (hw2.cell (p := ⟨gr, _, none⟩) hgr).trans r0; have t1 := (hw2.cell (p := ⟨gr, _, none⟩) hgr).trans r1; have t2 := (hw2.cell (p := ⟨gr, _, none⟩) hgr).trans r2; have t3 := (hw2.cell (p := ⟨gr, _, none⟩) hgr).trans r3; have hlw2 : w.heap.size < w2.heap.size := (by have h9 := hc2.size; rw [World.size_alloc] at h9; exact h9); have hlv2 : w.heap.size ≤ w2.heap.size := Nat.le_of_lt hlw2; clear hb2 hc1 hw1))
  have hcA : Below (w.heap.size + 1) (w.alloc (.cells #[.int .i64 0, str [], .slice none 0 0, .slice none 0 0, .slice none 0 0, .slice none 0 0] 27)) ((w2.alloc (.cells #[str rn, .slice D rcs.length dc, .slice none 0 0, .slice none 0 0] 68)).alloc (.cells #[.int .i64 1, .int .i64 3, .int .i64 8, .int .i64 9, .int .i64 10, .int .i64 11, .int .i64 12, .int .i64 13] 3)) := (hc2.alloc hlw2 _).alloc (by rw [World.size_alloc]; omega) _
  have hlA : w.heap.size < ((w2.alloc (.cells #[str rn, .slice D rcs.length dc, .slice none 0 0, .slice none 0 0] 68)).alloc (.cells #[.int .i64 1, .int .i64 3, .int .i64 8, .int .i64 9, .int .i64 10, .int .i64 11, .int .i64 12, .int .i64 13] 3)).heap.size := by have h9 := hcA.size; rw [World.size_alloc] at h9; exact h9
  clear t0 t1 t2 t3 r0 r1 r2 r3 hm hz hb0 p0 p1 p2 p3 p4 p5 p6 p7 p8 p9 p10 hfv hw2 hc2 HA1 HA2
  generalize (w2.alloc (.cells #[str rn, .slice D rcs.length dc, .slice none 0 0, .slice none 0 0] 68)).alloc (.cells #[.int .i64 1, .int .i64 3, .int .i64 8, .int .i64 9, .int .i64 10, .int .i64 11, .int .i64 12, .int .i64 13] 3) = wA at *
  go_upto_region 31 with (go_at_call 142; refine (HF.out _ (box_below hcA)).mono ?_; rintro e w3 ⟨rfl, hb3⟩; have hc3 := below_go hcA (by simp) hb3; have hlw3 : w.heap.size < w3.heap.size := (by have h9 := hc3.size; rw [World.size_alloc] at h9; exact h9); clear hb3)
  have h_wI : (w3.alloc (.cells #[str fn, .int .i64 f, str [], .int .i64 0, .slice none 0 0] 61)).heap[w3.heap.size]? = some (.cells #[str fn, .int .i64 f, str [], .int .i64 0, .slice none 0 0] 61) := heap_alloc_new _ _
  have hc_wI : Below (w.heap.size + 1) (w.alloc (.cells #[.int .i64 0, str [], .slice none 0 0, .slice none 0 0, .slice none 0 0, .slice none 0 0] 27)) (w3.alloc (.cells #[str fn, .int .i64 f, str [], .int .i64 0, .slice none 0 0] 61)) := hc3.alloc hlw3 _
  generalize w3.alloc (.cells #[str fn, .int .i64 f, str [], .int .i64 0, .slice none 0 0] 61) = wI at *
  generalize w3.heap.size = b13 at *
  clear hcA hlA HF hc3
  go_upto_if 142 with (go_at_call 105; refine (HWn.out _).mono ?_; rintro e w5 ⟨rfl, rfl⟩)
  clear HWn
  go_cut [] from 142 to 152 (fun wx => Hid (Below (w.heap.size + 1) (w.alloc (.cells #[.int .i64 0, str [], .slice none 0 0, .slice none 0 0, .slice none 0 0, .slice none 0 0] 27)) wx) ∧ wx.heap[b13]? = some (.cells #[str fn, .int .i64 f, str cx, .int .i64 nx, .slice none 0 0] 61))
  case first =>
    cases col
    · obtain rfl : num = false := by cases num with | false => rfl | true => exact absurd (HCN.out rfl) (by decide)
      obtain rfl : cx = [] := by have h := HCx.out; simpa using h
      obtain rfl : nx = 0 := by have h := HNx.out; simpa using h
      go_wp2_with fail
      go_meet
      exact ⟨hide hc_wI, h_wI⟩
    obtain rfl : cx = cn := by have h := HCx.out; simpa using h
    go_upto_if 148 with (go_at_call 145; refine (HN.out _ (box_below hc_wI)).mono ?_; rintro e w4 ⟨rfl, hb9⟩; have h_w4 := (hb9.block _ (lt_of_heap h_wI)).trans h_wI; have hc_w4 := below_go hc_wI (by simp) hb9; have d2 := cell_of_heap h_w4 2; have fd : ∀ j, w4.frozen? ⟨b13, j, none⟩ = false := (fun j => free_of_heap h_w4 j); clear hb9)
    have h_wJ : (w4.setCell ⟨b13, 2, none⟩ (str cx)).heap[b13]? = some (.cells #[str fn, .int .i64 f, str cx, .int .i64 0, .slice none 0 0] 61) := by
      have h9 := heap_setCell_same w4 b13 2 _ _ (str cx) h_w4
      simpa using h9
    have hc_wJ : Below (w.heap.size + 1) (w.alloc (.cells #[.int .i64 0, str [], .slice none 0 0, .slice none 0 0, .slice none 0 0, .slice none 0 0] 27)) (w4.setCell ⟨b13, 2, none⟩ (str cx)) := hc_w4.setCell (show w.heap.size + 1 ≤ b13 from hlw3) _
    clear d2 fd
    generalize w4.setCell ⟨b13, 2, none⟩ (str cx) = wJ at *
    cases num
    · obtain rfl : nx = 0 := by have h := HNx.out; simpa using h
      go_wp2_with fail
      go_meet
      exact ⟨hide hc_wJ, h_wJ⟩
    obtain rfl : nx = 1 + k % 3 := by have h := HNx.out; simpa using h
    have d3 := cell_of_heap h_wJ 3
    have fd : ∀ j, wJ.frozen? ⟨b13, j, none⟩ = false := fun j => free_of_heap h_wJ j
    go_wp2_with fail
    go_meet
    have h9 := heap_setCell_same wJ b13 3 _ _ (.int .i64 (1 + k % 3)) h_wJ
    exact ⟨hide (hc_wJ.setCell (show w.heap.size + 1 ≤ b13 from hlw3) _), by simpa using h9⟩
  case rest =>
    obtain ⟨HcN, h_wN⟩ := hcut
    have hc_wN := HcN.out
    clear hc_wI h_wI HcN
    go_upto_region 36 with fail
    go_cut [20] from 153 to 159 (fun s20 wx => ∃ b20 A6 ib : Nat, s20 = .pointer (some ⟨b20, 0, none⟩) ∧ Hid (WinS w wx ⟨fn, f, cx, nx, []⟩ lo b20 A6 ib))
    case first =>
      have e0 := cell_of_heap h_wN 0
      have e1 := cell_of_heap h_wN 1
      have e2 := cell_of_heap h_wN 2
      have e3 := cell_of_heap h_wN 3
      have e4 := cell_of_heap h_wN 4
      simp at e0 e1 e2 e3 e4
      have hb13 := lt_of_heap h_wN
      have HS := hide (fun w' (hb : Below wc.heap.size wc w') => show w'.cell? ⟨b13, 0, none⟩ = some (str fn) ∧ w'.cell? ⟨b13, 1, none⟩ = some (.int .i64 f) ∧ w'.cell? ⟨b13, 2, none⟩ = some (str cx) ∧ w'.cell? ⟨b13, 3, none⟩ = some (.int .i64 nx) ∧ w'.cell? ⟨b13, 4, none⟩ = some (.slice none 0 0) from ⟨(hb.cell (p := ⟨b13, 0, none⟩) hb13).trans e0, (hb.cell (p := ⟨b13, 1, none⟩) hb13).trans e1, (hb.cell (p := ⟨b13, 2, none⟩) hb13).trans e2, (hb.cell (p := ⟨b13, 3, none⟩) hb13).trans e3, (hb.cell (p := ⟨b13, 4, none⟩) hb13).trans e4⟩)
      have HO0 := hide (show OrdS w wc wc.drew ⟨fn, f, cx, nx, []⟩ lo none none none from ⟨Below.drew (Below.refl _ _), Below.drew hc_wN, OrdS.lt (Below.drew hc_wN), fun _ e => (by cases e), fun _ e => (by cases e), fun _ e => (by cases e)⟩)
      refine wp_region_held_drew (S := (fun w' => w'.cell? ⟨b13, 0, none⟩ = some (str fn) ∧ w'.cell? ⟨b13, 1, none⟩ = some (.int .i64 f) ∧ w'.cell? ⟨b13, 2, none⟩ = some (str cx) ∧ w'.cell? ⟨b13, 3, none⟩ = some (.int .i64 nx) ∧ w'.cell? ⟨b13, 4, none⟩ = some (.slice none 0 0))) (by kernel_rfl) (by (try dsimp only); exact HS.out _ (Below.drew (Below.refl _ _))) (fun hHeld => ?_)
      clear hc_wN h_wN e0 e1 e2 e3 e4
      generalize wc.drew = W0 at *
      refine zT 0 ?_; refine zT 2 ?_; refine zT 3 ?_; refine zT 4 ?_
      refine wpAnyH_ready (rs := [1, 5, 7]) (by kernel_rfl) (by simp) ?_
      refine AllReadyH.cons rfl (fun K hK => ?_) ?_
      · go_simp
        have HV1 := hide (OrdS.one HO0.out)
        refine zB hK (HS.out _ HV1.out.b) (fun hHeld => ?_)
        clear hK K
        generalize W0.alloc (.cells #[str fn, .int .i64 f, str cx, .int .i64 nx, .slice none 0 0] 61) = V1 at *
        generalize W0.heap.size = ib at *
        refine wpAnyH_ready (rs := [5, 7]) (by kernel_rfl) (by simp) ?_
        refine AllReadyH.cons rfl (fun K hK => ?_) ?_
        · go_simp
          go_wp2_with (go_at_call 143; refine (HO.out _ (box_below (HV1.out).c)).mono ?_; rintro e V2 ⟨⟨A6, rfl, hA6, hh6⟩, hb6⟩)
          have HV2 := hide (OrdS.five HV1.out hb6 hh6)
          refine zB hK (HS.out _ HV2.out.b) (fun hHeld => ?_)
          clear hK K hb6 hh6
          refine zT 6 ?_
          refine zR 7 (fun K hK => ?_)
          go_simp
          have HV3 := hide (OrdS.seven HV2.out)
          refine zB hK (HS.out _ HV3.out.b) (fun hHeld => ?_)
          clear hK K
          generalize V2.alloc (.cells #[.int .i64 0, str [], .slice none 0 0, .slice none 0 0, .slice none 0 0, .slice none 0 0] 27) = V3 at *
          generalize V2.heap.size = b20 at *
          have h20 := (HV3.out.h7 b20 rfl).2.2
          have z0 := cell_of_heap h20 0
          have z1 := cell_of_heap h20 1
          have z2 := cell_of_heap h20 2
          have z3 := cell_of_heap h20 3
          have z4 := cell_of_heap h20 4
          have z5 := cell_of_heap h20 5
          have f20 : ∀ j, V3.frozen? ⟨b20, j, none⟩ = false := fun j => free_of_heap h20 j
          refine zR 8 (fun K hK => ?_)
          go_simp
          refine zB hK (HS.out _ (below_set6 HV3.out.b (HV3.out.h7 b20 rfl).2.1 _ _ _ _ _ _)) (fun hHeld => ?_)
          clear hK K
          refine wpAnyH_done (by kernel_rfl) ?_ _
          go_wp2_with fail
          go_meet
          exact ⟨b20, A6, ib, rfl, hide HV3.out.fin⟩
        refine AllReadyH.cons rfl (fun K hK => ?_) AllReadyH.nil
        go_simp
        have HV4 := hide (OrdS.seven HV1.out)
        refine zB hK (HS.out _ HV4.out.b) (fun hHeld => ?_)
        clear hK K
        generalize V1.alloc (.cells #[.int .i64 0, str [], .slice none 0 0, .slice none 0 0, .slice none 0 0, .slice none 0 0] 27) = V4 at *
        generalize V1.heap.size = b20 at *
        refine zR 5 (fun K hK => ?_)
        go_simp
        go_wp2_with (go_at_call 143; refine (HO.out _ (box_below (HV4.out).c)).mono ?_; rintro e V5 ⟨⟨A6, rfl, hA6, hh6⟩, hb6⟩)
        have HV5 := hide (OrdS.five HV4.out hb6 hh6)
        refine zB hK (HS.out _ HV5.out.b) (fun hHeld => ?_)
        clear hK K hb6 hh6
        refine zT 6 ?_
        have h20 := (HV5.out.h7 b20 rfl).2.2
        have z0 := cell_of_heap h20 0
        have z1 := cell_of_heap h20 1
        have z2 := cell_of_heap h20 2
        have z3 := cell_of_heap h20 3
        have z4 := cell_of_heap h20 4
        have z5 := cell_of_heap h20 5
        have f20 : ∀ j, V5.frozen? ⟨b20, j, none⟩ = false := fun j => free_of_heap h20 j
        refine zR 8 (fun K hK => ?_)
        go_simp
        refine zB hK (HS.out _ (below_set6 HV5.out.b (HV5.out.h7 b20 rfl).2.1 _ _ _ _ _ _)) (fun hHeld => ?_)
        clear hK K
        refine wpAnyH_done (by kernel_rfl) ?_ _
        go_wp2_with fail
        go_meet
        exact ⟨b20, A6, ib, rfl, hide HV5.out.fin⟩
      refine AllReadyH.cons rfl (fun K hK => ?_) ?_
      · go_simp
        go_wp2_with (go_at_call 143; refine (HO.out _ (box_below (HO0.out).c)).mono ?_; rintro e V6 ⟨⟨A6, rfl, hA6, hh6⟩, hb6⟩)
        have HV6 := hide (OrdS.five HO0.out hb6 hh6)
        refine zB hK (HS.out _ HV6.out.b) (fun hHeld => ?_)
        clear hK K hb6 hh6
        refine wpAnyH_ready (rs := [1, 7]) (by kernel_rfl) (by simp) ?_
        refine AllReadyH.cons rfl (fun K hK => ?_) ?_
        · go_simp
          have HV7 := hide (OrdS.one HV6.out)
          refine zB hK (HS.out _ HV7.out.b) (fun hHeld => ?_)
          clear hK K
          generalize V6.alloc (.cells #[str fn, .int .i64 f, str cx, .int .i64 nx, .slice none 0 0] 61) = V7 at *
          generalize V6.heap.size = ib at *
          refine zT 6 ?_
          refine zR 7 (fun K hK => ?_)
          go_simp
          have HV8 := hide (OrdS.seven HV7.out)
          refine zB hK (HS.out _ HV8.out.b) (fun hHeld => ?_)
          clear hK K
          generalize V7.alloc (.cells #[.int .i64 0, str [], .slice none 0 0, .slice none 0 0, .slice none 0 0, .slice none 0 0] 27) = V8 at *
          generalize V7.heap.size = b20 at *
          have h20 := (HV8.out.h7 b20 rfl).2.2
          have z0 := cell_of_heap h20 0
          have z1 := cell_of_heap h20 1
          have z2 := cell_of_heap h20 2
          have z3 := cell_of_heap h20 3
          have z4 := cell_of_heap h20 4
          have z5 := cell_of_heap h20 5
          have f20 : ∀ j, V8.frozen? ⟨b20, j, none⟩ = false := fun j => free_of_heap h20 j
          refine zR 8 (fun K hK => ?_)
          go_simp
          refine zB hK (HS.out _ (below_set6 HV8.out.b (HV8.out.h7 b20 rfl).2.1 _ _ _ _ _ _)) (fun hHeld => ?_)
          clear hK K
          refine wpAnyH_done (by kernel_rfl) ?_ _
          go_wp2_with fail
          go_meet
          exact ⟨b20, A6, ib, rfl, hide HV8.out.fin⟩
        refine AllReadyH.cons rfl (fun K hK => ?_) AllReadyH.nil
        go_simp
        have HV9 := hide (OrdS.seven HV6.out)
        refine zB hK (HS.out _ HV9.out.b) (fun hHeld => ?_)
        clear hK K
        generalize V6.alloc (.cells #[.int .i64 0, str [], .slice none 0 0, .slice none 0 0, .slice none 0 0, .slice none 0 0] 27) = V9 at *
        generalize V6.heap.size = b20 at *
        refine zR 1 (fun K hK => ?_)
        go_simp
        have HV10 := hide (OrdS.one HV9.out)
        refine zB hK (HS.out _ HV10.out.b) (fun hHeld => ?_)
        clear hK K
        generalize V9.alloc (.cells #[str fn, .int .i64 f, str cx, .int .i64 nx, .slice none 0 0] 61) = V10 at *
        generalize V9.heap.size = ib at *
        refine zT 6 ?_
        have h20 := (HV10.out.h7 b20 rfl).2.2
        have z0 := cell_of_heap h20 0
        have z1 := cell_of_heap h20 1
        have z2 := cell_of_heap h20 2
        have z3 := cell_of_heap h20 3
        have z4 := cell_of_heap h20 4
        have z5 := cell_of_heap h20 5
        have f20 : ∀ j, V10.frozen? ⟨b20, j, none⟩ = false := fun j => free_of_heap h20 j
        refine zR 8 (fun K hK => ?_)
        go_simp
        refine zB hK (HS.out _ (below_set6 HV10.out.b (HV10.out.h7 b20 rfl).2.1 _ _ _ _ _ _)) (fun hHeld => ?_)
        clear hK K
        refine wpAnyH_done (by kernel_rfl) ?_ _
        go_wp2_with fail
        go_meet
        exact ⟨b20, A6, ib, rfl, hide HV10.out.fin⟩
      refine AllReadyH.cons rfl (fun K hK => ?_) AllReadyH.nil
      go_simp
      have HV11 := hide (OrdS.seven HO0.out)
      refine zB hK (HS.out _ HV11.out.b) (fun hHeld => ?_)
      clear hK K
      generalize W0.alloc (.cells #[.int .i64 0, str [], .slice none 0 0, .slice none 0 0, .slice none 0 0, .slice none 0 0] 27) = V11 at *
      generalize W0.heap.size = b20 at *
      refine wpAnyH_ready (rs := [1, 5]) (by kernel_rfl) (by simp) ?_
      refine AllReadyH.cons rfl (fun K hK => ?_) ?_
      · go_simp
        have HV12 := hide (OrdS.one HV11.out)
        refine zB hK (HS.out _ HV12.out.b) (fun hHeld => ?_)
        clear hK K
        generalize V11.alloc (.cells #[str fn, .int .i64 f, str cx, .int .i64 nx, .slice none 0 0] 61) = V12 at *
        generalize V11.heap.size = ib at *
        refine zR 5 (fun K hK => ?_)
        go_simp
        go_wp2_with (go_at_call 143; refine (HO.out _ (box_below (HV12.out).c)).mono ?_; rintro e V13 ⟨⟨A6, rfl, hA6, hh6⟩, hb6⟩)
        have HV13 := hide (OrdS.five HV12.out hb6 hh6)
        refine zB hK (HS.out _ HV13.out.b) (fun hHeld => ?_)
        clear hK K hb6 hh6
        refine zT 6 ?_
        have h20 := (HV13.out.h7 b20 rfl).2.2
        have z0 := cell_of_heap h20 0
        have z1 := cell_of_heap h20 1
        have z2 := cell_of_heap h20 2
        have z3 := cell_of_heap h20 3
        have z4 := cell_of_heap h20 4
        have z5 := cell_of_heap h20 5
        have f20 : ∀ j, V13.frozen? ⟨b20, j, none⟩ = false := fun j => free_of_heap h20 j
        refine zR 8 (fun K hK => ?_)
        go_simp
        refine zB hK (HS.out _ (below_set6 HV13.out.b (HV13.out.h7 b20 rfl).2.1 _ _ _ _ _ _)) (fun hHeld => ?_)
        clear hK K
        refine wpAnyH_done (by kernel_rfl) ?_ _
        go_wp2_with fail
        go_meet
        exact ⟨b20, A6, ib, rfl, hide HV13.out.fin⟩
      refine AllReadyH.cons rfl (fun K hK => ?_) AllReadyH.nil
      go_simp
      go_wp2_with (go_at_call 143; refine (HO.out _ (box_below (HV11.out).c)).mono ?_; rintro e V14 ⟨⟨A6, rfl, hA6, hh6⟩, hb6⟩)
      have HV14 := hide (OrdS.five HV11.out hb6 hh6)
      refine zB hK (HS.out _ HV14.out.b) (fun hHeld => ?_)
      clear hK K hb6 hh6
      refine zR 1 (fun K hK => ?_)
      go_simp
      have HV15 := hide (OrdS.one HV14.out)
      refine zB hK (HS.out _ HV15.out.b) (fun hHeld => ?_)
      clear hK K
      generalize V14.alloc (.cells #[str fn, .int .i64 f, str cx, .int .i64 nx, .slice none 0 0] 61) = V15 at *
      generalize V14.heap.size = ib at *
      refine zT 6 ?_
      have h20 := (HV15.out.h7 b20 rfl).2.2
      have z0 := cell_of_heap h20 0
      have z1 := cell_of_heap h20 1
      have z2 := cell_of_heap h20 2
      have z3 := cell_of_heap h20 3
      have z4 := cell_of_heap h20 4
      have z5 := cell_of_heap h20 5
      have f20 : ∀ j, V15.frozen? ⟨b20, j, none⟩ = false := fun j => free_of_heap h20 j
      refine zR 8 (fun K hK => ?_)
      go_simp
      refine zB hK (HS.out _ (below_set6 HV15.out.b (HV15.out.h7 b20 rfl).2.1 _ _ _ _ _ _)) (fun hHeld => ?_)
      clear hK K
      refine wpAnyH_done (by kernel_rfl) ?_ _
      go_wp2_with fail
      go_meet
      exact ⟨b20, A6, ib, rfl, hide HV15.out.fin⟩
    case rest =>
      obtain ⟨b20, A6, ib, rfl, HW⟩ := hcut
      obtain ⟨h20l, h_wK, hc_wK, HSK, HIK⟩ := HW.out
      have HSK := hide HSK
      have HIK := hide HIK
      clear hc_wN h_wN HW
      by_cases hnm : 0 < k / 64 % 4
      · obtain rfl : lx = ls := by have h := HLx.out; rw [if_pos hnm] at h; exact h
        go_upto_region 39 with (go_at_call 143; refine (HM.out _ (box_below hc_wK)).mono ?_; rintro e w7 ⟨⟨A7, rfl, hA7, hh7⟩, hb9⟩; have h_w7 := (hb9.block _ (lt_of_heap h_wK)).trans h_wK; have hc_w7 := below_go hc_wK (by simp) hb9; have d2 := cell_of_heap h_w7 2; have fd : ∀ j, w7.frozen? ⟨b20, j, none⟩ = false := (fun j => free_of_heap h_w7 j); have HS7 := hide (firm_strs hh7); have HI7 := hide (HIK.out.below hb9); have HO7 := hide (HSK.out.below hb9); clear hh7; clear hb9)
        have h_wL : (w7.setCell ⟨b20, 2, none⟩ (.slice (some ⟨A7, 0, none⟩) lx.length lx.length)).heap[b20]? = some (.cells #[.int .i64 12, str [], .slice (some ⟨A7, 0, none⟩) lx.length lx.length, .slice (some ⟨A6, 0, none⟩) lo.length lo.length, .slice (some ⟨ib, 0, none⟩) 1 1, .slice none 0 0] 27) := by
          have h9 := heap_setCell_same w7 b20 2 _ _ (.slice (some ⟨A7, 0, none⟩) lx.length lx.length) h_w7
          simpa using h9
        have hc_wL : Below (w.heap.size + 1) (w.alloc (.cells #[.int .i64 0, str [], .slice none 0 0, .slice none 0 0, .slice none 0 0, .slice none 0 0] 27)) (w7.setCell ⟨b20, 2, none⟩ (.slice (some ⟨A7, 0, none⟩) lx.length lx.length)) := hc_w7.setCell (show w.heap.size + 1 ≤ b20 from h20l) _
        have HSL := hide (HS7.out.keep (keep_set (j := 2) (u := .slice (some ⟨A7, 0, none⟩) lx.length lx.length) h_w7))
        have HIL := hide (HI7.out.keep (keep_set (j := 2) (u := .slice (some ⟨A7, 0, none⟩) lx.length lx.length) h_w7))
        have HOL := hide (HO7.out.keep (keep_set (j := 2) (u := .slice (some ⟨A7, 0, none⟩) lx.length lx.length) h_w7))
        generalize w7.setCell ⟨b20, 2, none⟩ (.slice (some ⟨A7, 0, none⟩) lx.length lx.length) = wL at *
        have g0 := cell_of_heap h_wL 0
        have g1 := cell_of_heap h_wL 1
        have g2 := cell_of_heap h_wL 2
        have g3 := cell_of_heap h_wL 3
        have g4 := cell_of_heap h_wL 4
        have g5 := cell_of_heap h_wL 5
        have hhz := heap_of_below hc_wL (Nat.lt_succ_self _)
        obtain ⟨z0, z1, z2, z3, z4, z5, hlw⟩ := box6 hc_wL
        have fr : ∀ j, wL.frozen? ⟨w.heap.size, j, none⟩ = false := fun j => free_of_heap hhz j
        have HFin := hide (firm_step (w := wL) (s := ⟨12, [], lx, lo, [⟨fn, f, cx, nx, []⟩], []⟩) (a := ⟨some ⟨A7, 0, none⟩, lx.length, some ⟨A6, 0, none⟩, lo.length, some ⟨ib, 0, none⟩, 1, none, 0⟩) HSL.out HOL.out HIL.out (firm_noNd _) (Nat.le_refl _) (Nat.le_refl _) (Nat.le_refl _))
        have hbF := box_below hc_wL
        go_wp2
        refine step_ret (b := w.heap.size) ?_ ?_ (set6_heap hhz _ _ _ _ _ _) ?_
        · first | rfl | (simp; done) | kernel_rfl
        · rfl
        · exact ⟨⟨⟨some ⟨A7, 0, none⟩, lx.length, some ⟨A6, 0, none⟩, lo.length, some ⟨ib, 0, none⟩, 1, none, 0⟩, rfl, HFin.out.keep (keep_set6 hhz _ _ _ _ _ _)⟩, (below_set6 hbF (Nat.le_refl _) _ _ _ _ _ _)⟩
      · obtain rfl : lx = [] := by have h := HLx.out; rw [if_neg hnm] at h; exact h
        have hn0 : k / 64 % 4 = 0 := by omega
        go_upto_region 39 with fail
        have g0 := cell_of_heap h_wK 0
        have g1 := cell_of_heap h_wK 1
        have g2 := cell_of_heap h_wK 2
        have g3 := cell_of_heap h_wK 3
        have g4 := cell_of_heap h_wK 4
        have g5 := cell_of_heap h_wK 5
        have hhz := heap_of_below hc_wK (Nat.lt_succ_self _)
        obtain ⟨z0, z1, z2, z3, z4, z5, hlw⟩ := box6 hc_wK
        have fr : ∀ j, wc.frozen? ⟨w.heap.size, j, none⟩ = false := fun j => free_of_heap hhz j
        have HFin := hide (firm_step (w := wc) (s := ⟨12, [], [], lo, [⟨fn, f, cx, nx, []⟩], []⟩) (a := ⟨none, 0, some ⟨A6, 0, none⟩, lo.length, some ⟨ib, 0, none⟩, 1, none, 0⟩) (firm_none _) HSK.out HIK.out (firm_noNd _) (Nat.le_refl _) (Nat.le_refl _) (Nat.le_refl _))
        have hbF := box_below hc_wK
        go_wp2
        refine step_ret (b := w.heap.size) ?_ ?_ (set6_heap hhz _ _ _ _ _ _) ?_
        · first | rfl | (simp; done) | kernel_rfl
        · rfl
        · exact ⟨⟨⟨none, 0, some ⟨A6, 0, none⟩, lo.length, some ⟨ib, 0, none⟩, 1, none, 0⟩, rfl, HFin.out.keep (keep_set6 hhz _ _ _ _ _ _)⟩, (below_set6 hbF (Nat.le_refl _) _ _ _ _ _ _)⟩
end Go.Proofs.YtmbeeefkpgfgmaaGreatDoor
