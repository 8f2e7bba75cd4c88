/- Parts of the proof. -/
import Derived.Test.YtnpjibaolicbmaaGreatDoorProg
import Derived.Below
import Derived.KernelRfl
import Derived.WalkKit
import Derived.WalkSpells
import Derived.Laws.BytesArg
import Derived.Deep.QuietTactic
import Derived.BigQuiet
import Derived.Lib.Bytealg
import Derived.WalkLawsBesides
set_option linter.unusedVariables false
set_option linter.unusedSimpArgs false
namespace Go.Proofs.YtnpjibaolicbmaaGreatDoor
open Go.RowKit
theorem zX {B : Nat} {w w' : World} (h : Below B w w' := by (repeat (first | exact Below.refl _ _ | assumption | refine Below.drew ?_ | refine a_4 ?_ _ | refine Below.alloc ?_ (by first | omega | (simp; done) | (simp; omega)) _ | refine Below.setCell ?_ (by first | omega | (simp; done) | (simp; omega)) _))) : Below B w w' := h
theorem _aa {G H : Prop} (k : H) (h : H → G := by
  have T := fun o => b_7 (w1 := w1.alloc o) ((heap_alloc_old _ _ o_).trans h2) ((heap_alloc_old _ _ o_).trans h3)
  have x0 := fun o => (T o).1.1
  have x1 := fun o => (T o).1.2.1
  have xf := fun o => (T o).1.2.2
  have y0 := fun o => (T o).2.1.1
  have y1 := fun o => (T o).2.1.2.1
  have yf := fun o => (T o).2.1.2.2
  have s0 := fun o => (T o).2.2.1
  have s1 := fun o => (T o).2.2.2.1
  have u0 := fun o => (T o).2.2.2.2.1
  have u1 := fun o => (T o).2.2.2.2.2
  have z1 : ∀ o a b, (((w1.setCell ⟨w.heap.size + 1, 0, none⟩ a).setCell ⟨w.heap.size + 1, 1, none⟩ b).alloc o).cell? ⟨w.heap.size + 1, 1, none⟩ = some b := fun o a b => ((show Below w1.heap.size ((w1.setCell ⟨w.heap.size + 1, 0, none⟩ a).setCell ⟨w.heap.size + 1, 1, none⟩ b) _ from zX).cell (p := ⟨w.heap.size + 1, 1, none⟩) l1).trans (b_x p0 p1 a b).2
  have z0 : ∀ o a b, (((w1.setCell ⟨w.heap.size + 1, 0, none⟩ a).setCell ⟨w.heap.size + 1, 1, none⟩ b).alloc o).cell? ⟨w.heap.size + 1, 0, none⟩ = some a := fun o a b => ((show Below w1.heap.size ((w1.setCell ⟨w.heap.size + 1, 0, none⟩ a).setCell ⟨w.heap.size + 1, 1, none⟩ b) _ from zX).cell (p := ⟨w.heap.size + 1, 0, none⟩) l1).trans ((World.cell?_setCell_other _ _ _ _ s_).trans (b_x p0 p1 a b).1)
  have zz1 : ∀ o a b c d, (((((w1.setCell ⟨w.heap.size + 1 + 1, 0, none⟩ a).setCell ⟨w.heap.size + 1 + 1, 1, none⟩ b).setCell ⟨w.heap.size + 1, 0, none⟩ c).setCell ⟨w.heap.size + 1, 1, none⟩ d).alloc o).cell? ⟨w.heap.size + 1, 1, none⟩ = some d := fun o a b c d => ((Below.alloc (b_ _ _) (l_ _) o).cell (p := ⟨w.heap.size + 1, 1, none⟩) m_).trans (v1 a b c d)
  have zz0 : ∀ o a b c d, (((((w1.setCell ⟨w.heap.size + 1 + 1, 0, none⟩ a).setCell ⟨w.heap.size + 1 + 1, 1, none⟩ b).setCell ⟨w.heap.size + 1, 0, none⟩ c).setCell ⟨w.heap.size + 1, 1, none⟩ d).alloc o).cell? ⟨w.heap.size + 1, 0, none⟩ = some c := fun o a b c d => ((Below.alloc (b_ _ _) (l_ _) o).cell (p := ⟨w.heap.size + 1, 0, none⟩) m_).trans ((World.cell?_setCell_other _ _ _ _ s_).trans (v0 a b c))
  have hb3 : ∀ o, Below w.heap.size w (w1.alloc o) := fun o => hb2.trans zX
  intro k_
  revert T x0 x1 xf y0 y1 yf s0 s1 u0 u1 z1 z0 zz1 zz0 hb3
  exact k_) : G := h k
theorem n_8 {G H : Prop} (k : H) (h : H → G := by
  have hl4 : m.defs.chks.length + 1 = (m.defs.chks ++ [x]).length := by simp
  have hk4 := (KeepX.of (X := XC) ((b_ w3.heap.size w3).alloc (l_ _) (.cells (x.cells p q' r).toArray 67))).trans ((j_c ((a_g o2 hb3).alloc _) g4).trans (k_O (j := i * 8 + 7) (v := .slice A4 (m.defs.chks.length + 1) c4) hS4.own))
  have hB4 := hS4.bel.setCell (p := ⟨g, i * 8 + 7, none⟩) hS4.gat.1 (.slice A4 (m.defs.chks.length + 1) c4)
  have ho4 := e_7.own o4 l0 (fun v hv => hv) _ (But.set g (i * 8 + 7) w4 (.slice A4 (m.defs.chks.length + 1) c4))
  intro k_
  revert hl4 hk4 hB4 ho4
  exact k_) : G := h k
theorem l_b {G H : Prop} (k : H) (h : H → G := by
  have e1 : (P ++ [S]).map str = P.map str ++ [str S] := by simp
  have e2 : (P ++ [S]).length = P.length + 1 := by simp
  have HFin := a_2 (show w3.ownsRow (w.heap.size + 1) 9 1 (.slice B3 (P ++ [S]).length d3) (P ++ [S]).length ((P ++ [S]).map str) from by rw [e1, e2]; exact hown3)
  intro k_
  revert e1 e2 HFin
  exact k_) : G := h k
theorem n_k {G H : Prop} (k : H) (h : H → G := by
  have hx0 : Below (w.heap.size + 1) (w.alloc (.cells #[.slice zsA zs.length zsC, .slice ssA ss.length ssC, .slice msA ms.length msC, .slice dsA ds.length dsC, .slice nsA ns.length nsC, .slice csA cs.length csC] 34)) (w.alloc (.cells #[.slice zsA zs.length zsC, .slice ssA ss.length ssC, .slice msA ms.length msC, .slice dsA ds.length dsC, .slice nsA ns.length nsC, .slice csA cs.length csC] 34)) := b_ _ _
  intro k_
  revert hx0
  exact k_) : G := h k
theorem n_7 {G H : Prop} (k : H) (h : H → G := by
  have hb4 : Below w1.heap.size w1 w4 := ((hb2.trans (hb3.mono hs2)).alloc o_ _).grown g4 m_ (fun t ht => (o2.lt t ht).1)
  have hS4 := hS.go hb4
  have z7 : w4.cell? ⟨g, i * 8 + 7, none⟩ = some (slV ad.c m.defs.chks.length) := (hS4.cell hC hi2 hR.at_ 7 d_).1
  have d7 := (hS4.cell hC hi2 hR.at_ 7 d_).2
  intro k_
  revert hb4 hS4 z7 d7
  exact k_) : G := h k
theorem j_l {G H : Prop} (k : H) (h : H → G := by
  have h := f_S s.op s.src a.nA s.names.length a.nC a.oA s.others.length a.oC a.iA s.items.length a.iC a.cA s.cond.length a.cC W (hU.below hb)
  intro k_
  revert h
  exact k_) : G := h k
theorem q_r {G H : Prop} (k : H) (h : H → G := by
  have hx0 : Below (w.heap.size + 1) (w.alloc (.cells #[str c.name, str c.table, .int .i64 c.kind, slV p c.cols.length, str c.other, slV q c.ocols.length, .int .i64 c.low, .int .i64 c.high, slV r c.cond.length, .int .i64 c.ln, .int .i64 c.ld, .int .i64 c.mn, .int .i64 c.md, .int .i64 c.pol] 67)) (w.alloc (.cells #[str c.name, str c.table, .int .i64 c.kind, slV p c.cols.length, str c.other, slV q c.ocols.length, .int .i64 c.low, .int .i64 c.high, slV r c.cond.length, .int .i64 c.ln, .int .i64 c.ld, .int .i64 c.mn, .int .i64 c.md, .int .i64 c.pol] 67)) := b_ _ _
  have hr0 : Below w.heap.size w (w.alloc (.cells #[str c.name, str c.table, .int .i64 c.kind, slV p c.cols.length, str c.other, slV q c.ocols.length, .int .i64 c.low, .int .i64 c.high, slV r c.cond.length, .int .i64 c.ln, .int .i64 c.ld, .int .i64 c.mn, .int .i64 c.md, .int .i64 c.pol] 67)) := zX
  intro k_
  revert hx0 hr0
  exact k_) : G := h k
theorem n_h {G H : Prop} (k : H) (h : H → G := by
  have w0 := a_0 hc0
  have g0 := a_0 hc1 0
  have g1 := a_0 hc1 1
  have f2 := w0 2
  have f3 := w0 3
  have f4 := w0 4
  have f5 := w0 5
  have f6 := w0 6
  have f7 := w0 7
  have f8 := w0 8
  have f9 := w0 9
  have f10 := w0 10
  have f11 := w0 11
  have f12 := w0 12
  intro k_
  revert w0 g0 g1 f2 f3 f4 f5 f6 f7 f8 f9 f10 f11 f12
  exact k_) : G := h k
theorem q_R {G H : Prop} (k : H) (h : H → G := by
  have f0 : W.cell? ⟨Bm, 0, none⟩ = some (str m.name) := a_0 hh 0
  have f1 : W.cell? ⟨Bm, 1, none⟩ = some (slV u m.uses.length) := a_0 hh 1
  have f2 : W.cell? ⟨Bm, 2, none⟩ = some (slV a.z m.defs.zones.length) := a_0 hh 2
  have f3 : W.cell? ⟨Bm, 3, none⟩ = some (slV a.s m.defs.srcs.length) := a_0 hh 3
  have f4 : W.cell? ⟨Bm, 4, none⟩ = some (slV a.m m.defs.macs.length) := a_0 hh 4
  have f5 : W.cell? ⟨Bm, 5, none⟩ = some (slV a.d m.defs.mdls.length) := a_0 hh 5
  have f6 : W.cell? ⟨Bm, 6, none⟩ = some (slV a.n m.defs.snps.length) := a_0 hh 6
  have f7 : W.cell? ⟨Bm, 7, none⟩ = some (slV a.c m.defs.chks.length) := a_0 hh 7
  intro k_
  revert f0 f1 f2 f3 f4 f5 f6 f7
  exact k_) : G := h k
theorem o_8 {G H : Prop} (k : H) (h : H → G := by
  have L : ∀ (o1 o2 o3 : Obj) (p : Nat), (((w.alloc o1).alloc o2).alloc o3).cell? ⟨g, p, none⟩ = w.cell? ⟨g, p, none⟩ := fun o1 o2 o3 p => (show Below w.heap.size w (((w.alloc o1).alloc o2).alloc o3) from zX).cell (p := ⟨g, p, none⟩) hg
  intro k_
  revert L
  exact k_) : G := h k
theorem r_Z {G H : Prop} (k : H) (h : H → G := by
  have hbox : Below (w.heap.size + 1) (w.alloc (.cells #[.int .i64 op, str src, .slice nA ln nC, .slice oA lo oC, .slice iA its.length iC, .slice cA lc cC] 129)) (w.alloc (.cells #[.int .i64 op, str src, .slice nA ln nC, .slice oA lo oC, .slice iA its.length iC, .slice cA lc cC] 129)) := b_ _ _
  have L1 := a_2 (show ∀ W, Below (w.heap.size + 1) (w.alloc (.cells #[.int .i64 op, str src, .slice nA ln nC, .slice oA lo oC, .slice iA its.length iC, .slice cA lc cC] 129)) W → Calls prog 237 #[.slice nA ln nC, .int .i64 0] W fun e w' => e = .returned (.int .i64 e1) ∧ Below (w.heap.size + 1) (w.alloc (.cells #[.int .i64 op, str src, .slice nA ln nC, .slice oA lo oC, .slice iA its.length iC, .slice cA lc cC] 129)) w' from fun W hW => (HR1.out W (a_5 hW)).mono fun e w' ⟨h1, h2⟩ => ⟨h1, a_1 hW s_ h2⟩)
  have L2 := a_2 (show ∀ W, Below (w.heap.size + 1) (w.alloc (.cells #[.int .i64 op, str src, .slice nA ln nC, .slice oA lo oC, .slice iA its.length iC, .slice cA lc cC] 129)) W → Calls prog 237 #[.slice oA lo oC, .int .i64 0] W fun e w' => e = .returned (.int .i64 e2) ∧ Below (w.heap.size + 1) (w.alloc (.cells #[.int .i64 op, str src, .slice nA ln nC, .slice oA lo oC, .slice iA its.length iC, .slice cA lc cC] 129)) w' from fun W hW => (HR2.out W (a_5 hW)).mono fun e w' ⟨h1, h2⟩ => ⟨h1, a_1 hW s_ h2⟩)
  intro k_
  revert hbox L1 L2
  exact k_) : G := h k
theorem _ab {G H : Prop} (k : H) (h : H → G := by
  have e1 : wr.cell? ⟨g, off + k * 14 + 1, none⟩ = some (str t1) := by simpa using hcw 1 s_
  have e2 : wr.cell? ⟨g, off + k * 14 + 2, none⟩ = some (.int .i64 i2) := by simpa using hcw 2 s_
  have e3 : wr.cell? ⟨g, off + k * 14 + 3, none⟩ = some (.slice S3 m3 c3) := by simpa using hcw 3 s_
  have e4 : wr.cell? ⟨g, off + k * 14 + 4, none⟩ = some (str t4) := by simpa using hcw 4 s_
  have e5 : wr.cell? ⟨g, off + k * 14 + 5, none⟩ = some (.slice S5 m5 c5) := by simpa using hcw 5 s_
  have e6 : wr.cell? ⟨g, off + k * 14 + 6, none⟩ = some (.int .i64 i6) := by simpa using hcw 6 s_
  have e7 : wr.cell? ⟨g, off + k * 14 + 7, none⟩ = some (.int .i64 i7) := by simpa using hcw 7 s_
  have e8 : wr.cell? ⟨g, off + k * 14 + 8, none⟩ = some (.slice S8 m8 c8) := by simpa using hcw 8 s_
  have e9 : wr.cell? ⟨g, off + k * 14 + 9, none⟩ = some (.int .i64 i9) := by simpa using hcw 9 s_
  have e10 : wr.cell? ⟨g, off + k * 14 + 10, none⟩ = some (.int .i64 i10) := by simpa using hcw 10 s_
  have e11 : wr.cell? ⟨g, off + k * 14 + 11, none⟩ = some (.int .i64 i11) := by simpa using hcw 11 s_
  have e12 : wr.cell? ⟨g, off + k * 14 + 12, none⟩ = some (.int .i64 i12) := by simpa using hcw 12 s_
  have e13 : wr.cell? ⟨g, off + k * 14 + 13, none⟩ = some (.int .i64 i13) := by simpa using hcw 13 s_
  intro k_
  revert e1 e2 e3 e4 e5 e6 e7 e8 e9 e10 e11 e12 e13
  exact k_) : G := h k
theorem s_d {G H : Prop} (k : H) (h : H → G := by
  have hh := (hW2.block _ (a_6 hB)).trans hB
  have c0 : W.cell? ⟨b, 0, none⟩ = some (str c.name) := a_0 hh 0
  have c1 : W.cell? ⟨b, 1, none⟩ = some (str c.table) := a_0 hh 1
  have c2 : W.cell? ⟨b, 2, none⟩ = some (.int .i64 c.kind) := a_0 hh 2
  have c3 : W.cell? ⟨b, 3, none⟩ = some (slV p c.cols.length) := a_0 hh 3
  have c4 : W.cell? ⟨b, 4, none⟩ = some (str c.other) := a_0 hh 4
  have c5 : W.cell? ⟨b, 5, none⟩ = some (slV q c.ocols.length) := a_0 hh 5
  have c6 : W.cell? ⟨b, 6, none⟩ = some (.int .i64 c.low) := a_0 hh 6
  have c7 : W.cell? ⟨b, 7, none⟩ = some (.int .i64 c.high) := a_0 hh 7
  have c8 : W.cell? ⟨b, 8, none⟩ = some (slV r c.cond.length) := a_0 hh 8
  have c9 : W.cell? ⟨b, 9, none⟩ = some (.int .i64 c.ln) := a_0 hh 9
  have c10 : W.cell? ⟨b, 10, none⟩ = some (.int .i64 c.ld) := a_0 hh 10
  have c11 : W.cell? ⟨b, 11, none⟩ = some (.int .i64 c.mn) := a_0 hh 11
  have c12 : W.cell? ⟨b, 12, none⟩ = some (.int .i64 c.md) := a_0 hh 12
  have c13 : W.cell? ⟨b, 13, none⟩ = some (.int .i64 c.pol) := a_0 hh 13
  intro k_
  revert hh c0 c1 c2 c3 c4 c5 c6 c7 c8 c9 c10 c11 c12 c13
  exact k_) : G := h k
theorem p_T {G H : Prop} (k : H) (h : H → G := by
  have hlt := a_6 h3
  have l1 : w.heap.size + 1 < w1.heap.size := by omega
  have l2 : g < w1.heap.size := by omega
  have f0 := (hb2.cell (p := ⟨g, _, none⟩) hg).trans c0
  have f1 := (hb2.cell (p := ⟨g, _, none⟩) hg).trans c1
  have f3 := (hb2.cell (p := ⟨g, _, none⟩) hg).trans c3
  have f5 := (hb2.cell (p := ⟨g, _, none⟩) hg).trans c5
  intro k_
  revert hlt l1 l2 f0 f1 f3 f5
  exact k_) : G := h k
theorem e_T {G H : Prop} (k : H) (h : H → G := by
  have hh := (hW2.block _ (a_6 hB)).trans hB
  intro k_
  revert hh
  exact k_) : G := h k
theorem r_I {G H : Prop} (k : H) (h : H → G := by
  have hok := HK.out _ (List.getElem_mem hlt)
  have e0 : wr.cell? ⟨g, off + k * 8, none⟩ = some (str ms[k].name) := by simpa using hcw 0 s_
  have e1 : wr.cell? ⟨g, off + k * 8 + 1, none⟩ = some (slV u ms[k].uses.length) := by simpa using hcw 1 s_
  have e2 : wr.cell? ⟨g, off + k * 8 + 2, none⟩ = some (slV a.z ms[k].defs.zones.length) := by simpa using hcw 2 s_
  have e3 : wr.cell? ⟨g, off + k * 8 + 3, none⟩ = some (slV a.s ms[k].defs.srcs.length) := by simpa using hcw 3 s_
  have e4 : wr.cell? ⟨g, off + k * 8 + 4, none⟩ = some (slV a.m ms[k].defs.macs.length) := by simpa using hcw 4 s_
  have e5 : wr.cell? ⟨g, off + k * 8 + 5, none⟩ = some (slV a.d ms[k].defs.mdls.length) := by simpa using hcw 5 s_
  have e6 : wr.cell? ⟨g, off + k * 8 + 6, none⟩ = some (slV a.n ms[k].defs.snps.length) := by simpa using hcw 6 s_
  have e7 : wr.cell? ⟨g, off + k * 8 + 7, none⟩ = some (slV a.c ms[k].defs.chks.length) := by simpa using hcw 7 s_
  intro k_
  revert hok e0 e1 e2 e3 e4 e5 e6 e7
  exact k_) : G := h k
theorem p_L {G H : Prop} (k : H) (h : H → G := by
  have hB4 := hB3.setCell (p := ⟨g, i * 8 + 5, none⟩) hS3.gat.1 (.slice (some ⟨g2, 0, none⟩) (x' :: r).length c2)
  have ho4 := hjoin (w3.setCell ⟨g, i * 8 + 5, none⟩ (.slice (some ⟨g2, 0, none⟩) (x' :: r).length c2)) vs' (by rw [hl3]; rfl) ((Below.heap_setCell _ _ _ _ (by show g2 ≠ g; omega)).trans hw3)
  intro k_
  revert hB4 ho4
  exact k_) : G := h k
theorem n_9 {G H : Prop} (k : H) (h : H → G := by
  obtain ⟨vs2, hin2, hrd2, hln2, hone2⟩ := b_j o_R hR.sl.hc
  obtain ⟨i2, hi', hz0', hz1', hz2'⟩ := info_parts Tryz.info_chk
  have hsb := hR.ok.2.d.c
  have HR2 := a_2 (hrd2.below hS.bel)
  intro k_
  revert vs2 hin2 hrd2 hln2 hone2 i2 hi' hz0' hz1' hz2' hsb HR2
  exact k_) : G := h k
theorem p_V {G H : Prop} (k : H) (h : H → G := by
  have hxk : x.ok := hR.ok.1.defs.mdl x (by rw [hxr]; simp)
  obtain ⟨i2, hi', hz0', hz1', hz2'⟩ := info_parts Tryz.info_mdl
  have hsb := hR.ok.2.d.d
  have hxq := hR.ok.2.d.q x (by rw [hxr]; simp)
  have HR2 := a_2 (hrd2.below hS.bel)
  have HX := a_2 hxr
  have HX1 := a_2 (show m.defs.mdls.length = r.length + 1 by rw [hxr]; rfl)
  intro k_
  revert hxk i2 hi' hz0' hz1' hz2' hsb hxq HR2 HX HX1
  exact k_) : G := h k
theorem k_8 {G H : Prop} (k : H) (h : H → G := by
  have HW := a_2 hW
  have HA := a_2 hA
  have HO := a_2 ho
  have HOp := a_2 hop
  intro k_
  revert HW HA HO HOp
  exact k_) : G := h k
theorem p_z {G H : Prop} (k : H) (h : H → G := by
  have HQ := a_2 (fun W (hb : Below w0.heap.size w0 W) => a_O s W (HV.out.words.below hb) hsl)
  have HG := a_2 (fun W (hb : Below w0.heap.size w0 W) => l_x s W)
  intro k_
  revert HQ HG
  exact k_) : G := h k
theorem p_Y {G H : Prop} (k : H) (h : H → G := by
  have hS3 := (hS.go hb2).but hbut hB3 (Nat.lt_of_lt_of_le l0 hg2)
  have z5 : w3.cell? ⟨g, i * 8 + 5, none⟩ = some (slV ad.d m.defs.mdls.length) := (hS3.cell hC hi2 hR.at_ 5 d_).1
  have d5 := (hS3.cell hC hi2 hR.at_ 5 d_).2
  have m0 := hS3.gat.2
  intro k_
  revert hS3 z5 d5 m0
  exact k_) : G := h k
theorem _ac {G H : Prop} (k : H) (h : H → G := by
  have e1 : wr.cell? ⟨g, off + k * 8 + 1, none⟩ = some (.slice S1 m1 c1) := by simpa using hcw 1 s_
  have e2 : wr.cell? ⟨g, off + k * 8 + 2, none⟩ = some (.slice S2 m2 c2) := by simpa using hcw 2 s_
  have e3 : wr.cell? ⟨g, off + k * 8 + 3, none⟩ = some (str t3) := by simpa using hcw 3 s_
  have e4 : wr.cell? ⟨g, off + k * 8 + 4, none⟩ = some (str t4) := by simpa using hcw 4 s_
  have e5 : wr.cell? ⟨g, off + k * 8 + 5, none⟩ = some (.int .i64 i5) := by simpa using hcw 5 s_
  have e6 : wr.cell? ⟨g, off + k * 8 + 6, none⟩ = some (str t6) := by simpa using hcw 6 s_
  have e7 : wr.cell? ⟨g, off + k * 8 + 7, none⟩ = some (.int .i64 i7) := by simpa using hcw 7 s_
  intro k_
  revert e1 e2 e3 e4 e5 e6 e7
  exact k_) : G := h k
theorem p_S {G H : Prop} (k : H) (h : H → G := by
  have HF := a_2 (fun x (e : d_O l k = x) (hx : x ≠ 0) => (HE.out.trans (a_q HZ.out (by rw [e]; exact hx) hlt)).trans e)
  have HN := a_2 (fun (e : d_O l k = 0) => a_T HZ.out e)
  have hkc : k ≤ c := by omega
  intro k_
  revert HF HN hkc
  exact k_) : G := h k
theorem o_K {G H : Prop} (k : H) (h : H → G := by
  have Hz := a_2 hS.hz
  have Hs := a_2 hS.hs
  have Hm := a_2 hS.hm
  have Hd := a_2 hS.hd
  have Hn := a_2 hS.hn
  have Hc := a_2 hS.hc
  intro k_
  revert Hz Hs Hm Hd Hn Hc
  exact k_) : G := h k
theorem q_W {G H : Prop} (k : H) (h : H → G := by
  have hB4 := hB3.setCell (p := ⟨g, i * 8 + 3, none⟩) hS3.gat.1 (.slice (some ⟨g2, 0, none⟩) (x' :: r).length c2)
  have ho4 := hjoin (w3.setCell ⟨g, i * 8 + 3, none⟩ (.slice (some ⟨g2, 0, none⟩) (x' :: r).length c2)) vs' (by rw [hl3]; rfl) ((Below.heap_setCell _ _ _ _ (by show g2 ≠ g; omega)).trans hw3)
  intro k_
  revert hB4 ho4
  exact k_) : G := h k
theorem o_C {G H : Prop} (k : H) (h : H → G := by
  have hw0 : Below w0.heap.size w0 wr := HB0.out.grown HGr.out HB0.out.size (fun j hj => by cases hj; exact hbb)
  have hbl := HS.out.lt
  intro k_
  revert hw0 hbl
  exact k_) : G := h k
theorem p_W {G H : Prop} (k : H) (h : H → G := by
  have d3 := fun o1 o2 o3 => (L o1 o2 o3 _).trans c2
  have d4 := fun o1 o2 o3 => (L o1 o2 o3 _).trans c3
  have d5 := fun o1 o2 o3 => (L o1 o2 o3 _).trans c4
  have d6 := fun o1 o2 o3 => (L o1 o2 o3 _).trans c5
  intro k_
  revert d3 d4 d5 d6
  exact k_) : G := h k
theorem i_2 {G H : Prop} (k : H) (h : H → G := by
  have HR := a_2 (HE.out.trans (a_Y HZ.out))
  intro k_
  revert HR
  exact k_) : G := h k
theorem q_q {G H : Prop} (k : H) (h : H → G := by
  have d0 : decide ((0 : Int) < (k : Int)) = true := by simp; omega
  have d1 : decide (0 < k) = true := by simp; omega
  have hw : IntKind.i64.wrap ((k : Int) - 1) = (k : Int) - 1 := IntWalk.i64_in _ o_
  have ht : ((k : Int) - 1).toNat = k - 1 := by omega
  have hi0 : (0 : Int) ≤ (k : Int) - 1 := by omega
  intro k_
  revert d0 d1 hw ht hi0
  exact k_) : G := h k
theorem r_J {G H : Prop} (k : H) (h : H → G := by
  have e1 : wr.cell? ⟨g, off + k * 7 + 1, none⟩ = some (.slice S1 m1 c1) := by simpa using hcw 1 s_
  have e2 : wr.cell? ⟨g, off + k * 7 + 2, none⟩ = some (.slice S2 m2 c2) := by simpa using hcw 2 s_
  have e3 : wr.cell? ⟨g, off + k * 7 + 3, none⟩ = some (str t3) := by simpa using hcw 3 s_
  have e4 : wr.cell? ⟨g, off + k * 7 + 4, none⟩ = some (str t4) := by simpa using hcw 4 s_
  have e5 : wr.cell? ⟨g, off + k * 7 + 5, none⟩ = some (.int .i64 i5) := by simpa using hcw 5 s_
  have e6 : wr.cell? ⟨g, off + k * 7 + 6, none⟩ = some (.int .i64 i6) := by simpa using hcw 6 s_
  intro k_
  revert e1 e2 e3 e4 e5 e6
  exact k_) : G := h k
theorem s_7 {G H : Prop} (k : H) (h : H → G := by
  have g0 : DataW.trod enc prog W 0 (fun _ => true) held k 9 [c0] = some y0 := by have h9 : DataW.trod enc prog W 0 (fun _ => true) held k 9 (([c0, c1, c2].drop 0).take (prog.cellsOf 9)) = some y0 := hg 0 _ rfl; rw [show prog.cellsOf 9 = 1 by kernel_rfl] at h9; exact h9
  have g1 : DataW.trod enc prog W 0 (fun _ => true) held k 3 [c1] = some y1 := by have h9 : DataW.trod enc prog W 0 (fun _ => true) held k 3 (([c0, c1, c2].drop 1).take (prog.cellsOf 3)) = some y1 := hg 1 _ rfl; rw [show prog.cellsOf 3 = 1 by kernel_rfl] at h9; exact h9
  intro k_
  revert g0 g1
  exact k_) : G := h k
theorem n_g {G H : Prop} (k : H) (h : H → G := by
  have hg2 := (o2.lt g2 rfl).1
  have hB2 : Below w0.heap.size w0 w2 := hS.bel.trans (hb2.mono hS.bel.size)
  intro k_
  revert hg2 hB2
  exact k_) : G := h k
theorem _ad {G H : Prop} (k : H) (h : H → G := by
  have hb6 : Below w.heap.size w w4 := (show Below w.heap.size w _ from zX).grown hgrow4 m_ (fun k hk => by cases hk)
  have hown5 := own_low (b2 := w.heap.size) hown4 m_
  have HFin := a_2 (And.intro (HST.out.1) (And.intro HST.out.2 (And.intro (HKT.out.push kr br) hown5)))
  intro k_
  revert hb6 hown5 HFin
  exact k_) : G := h k
theorem s_o {G H : Prop} (k : H) (h : H → G := by
  have hbox : Below (w.heap.size + 1) (w.alloc (.cells #[str s.name, slV p s.cols.length, slV q s.key.length, str s.tm, str s.zone, .int .i64 s.late, .int .i64 s.reop] 57)) (w.alloc (.cells #[str s.name, slV p s.cols.length, slV q s.key.length, str s.tm, str s.zone, .int .i64 s.late, .int .i64 s.reop] 57)) := b_ _ _
  have HB0 := a_2 (show Below w.heap.size w (w.alloc (.cells #[str s.name, slV p s.cols.length, slV q s.key.length, str s.tm, str s.zone, .int .i64 s.late, .int .i64 s.reop] 57)) from zX)
  intro k_
  revert hbox HB0
  exact k_) : G := h k
theorem o_t {G H : Prop} (k : H) (h : H → G := by
  have HA := a_2 hA
  have HV := a_2 hV
  have HOk := a_2 hok
  have HB0 := a_2 hb0
  have hbw := hS.lt
  have HS0 := a_2 hS
  intro k_
  revert HA HV HOk HB0 hbw HS0
  exact k_) : G := h k
theorem r_K {G H : Prop} (k : H) (h : H → G := by
  have HT := a_2 (k_K (cs := cs) hlt)
  have HF := a_2 (fun x (e : n_e cs names k = x) (hx : x ≠ 0) => show j_q cs names = x from (a_q HZ.out (by rw [e]; exact hx) hlt).trans e)
  have HK := a_2 (fun (e : n_e cs names k = 0) => a_T HZ.out e)
  have HS := a_2 (show (names.take (k + 1)).map (c_k cs) = (names.take k).map (c_k cs) ++ [c_k cs names[k]] from by rw [List.take_succ_eq_append_getElem hlt, List.map_append]; rfl)
  have hkc : k ≤ nc := by omega
  intro k_
  revert HT HF HK HS hkc
  exact k_) : G := h k
theorem q_F {G H : Prop} (k : H) (h : H → G := by
  have hS3 := (hS.go hb2).but hbut hB3 (Nat.lt_of_lt_of_le l0 hg2)
  have z3 : w3.cell? ⟨g, i * 8 + 3, none⟩ = some (slV ad.s m.defs.srcs.length) := (hS3.cell hC hi2 hR.at_ 3 d_).1
  have d3 := (hS3.cell hC hi2 hR.at_ 3 d_).2
  have m0 := hS3.gat.2
  intro k_
  revert hS3 z3 d3 m0
  exact k_) : G := h k
theorem o_k {G H : Prop} (k : H) (h : H → G := by
  have c3 : W.cell? ⟨b, 3, none⟩ = some (slV p c.cols.length) := a_0 hh 3
  intro k_
  revert c3
  exact k_) : G := h k
theorem o_T {G H : Prop} (k : H) (h : H → G := by
  have HY := a_2 (fun (h : p n = false) => a_T HZ.out h)
  have HM := a_2 (fun (h : p n = true) => d_q HZ.out h hlt)
  intro k_
  revert HY HM
  exact k_) : G := h k
theorem q_L {G H : Prop} (k : H) (h : H → G := by
  have hxk : x.ok := hR.ok.1.defs.src x (by rw [hxr]; simp)
  obtain ⟨i2, hi', hz0', hz1', hz2'⟩ := info_parts Tryz.info_srx
  have hsb := hR.ok.2.d.s
  have HR2 := a_2 (hrd2.below hS.bel)
  have HX := a_2 hxr
  have HX1 := a_2 (show m.defs.srcs.length = r.length + 1 by rw [hxr]; rfl)
  intro k_
  revert hxk i2 hi' hz0' hz1' hz2' hsb HR2 HX HX1
  exact k_) : G := h k
theorem s_0 {G H : Prop} (k : H) (h : H → G := by
  have HB : ∀ W, Below (w.heap.size + 1) (w.alloc (.cells #[str c.name, str c.table, .int .i64 c.kind, slV p c.cols.length, str c.other, slV q c.ocols.length, .int .i64 c.low, .int .i64 c.high, slV r c.cond.length, .int .i64 c.ln, .int .i64 c.ld, .int .i64 c.mn, .int .i64 c.md, .int .i64 c.pol] 67)) W → c_4 W w.heap.size c p q r ∧ Below w.heap.size w W := fun W h => ⟨a_y h (Nat.lt_succ_self _), a_5 h⟩
  intro k_
  revert HB
  exact k_) : G := h k
theorem k_m {G H : Prop} (k : H) (h : H → G := by
  have HR := a_2 (HN.out (by rw [HT.out]; simp [a_c]))
  intro k_
  revert HR
  exact k_) : G := h k
theorem o_H {G H : Prop} (k : H) (h : H → G := by
  have hfin : ∀ w5, Below wr.heap.size wr w5 → w.grownBy w5 (some b) := fun w5 h => h_E HGr.out h
  intro k_
  revert hfin
  exact k_) : G := h k
theorem _ae {G H : Prop} (k : H) (h : H → G := by
  have hb3 : Below w.heap.size w w3 := (show Below w.heap.size w _ from zX).grown hgrow m_ (fun k hk => (HO.out.lt k hk).1)
  have e1 : (fl ++ [src]).map str = fl.map str ++ [str src] := by simp
  have e2 : (fl ++ [src]).length = fl.length + 1 := by simp
  have HFin := a_2 (show w3.ownsRow w.heap.size 9 1 (.slice A3 (fl ++ [src]).length c3') (fl ++ [src]).length ((fl ++ [src]).map str) from by rw [e1, e2]; exact hown3)
  intro k_
  revert hb3 e1 e2 HFin
  exact k_) : G := h k
theorem k_h {G H : Prop} (k : H) (h : H → G := by
  obtain ⟨b0, b1, b2, b3, b4, b5, hlw⟩ := a_R hx
  have hr := a_5 hx
  intro k_
  revert b0 b1 b2 b3 b4 b5 hlw hr
  exact k_) : G := h k
theorem o_q {G H : Prop} (k : H) (h : H → G := by
  have hx3 := (hx.alloc o_ (.cells #[str S] 9)).grown hgrow m_ (fun k hk => (HO.out.lt k hk).1)
  intro k_
  revert hx3
  exact k_) : G := h k
theorem s_3 {G H : Prop} (k : H) (h : H → G := by
  have HR1 := a_2 (fun W (hb : Below w.heap.size w W) => b_S a.nA s.names a.nC 0 W (hA.names.below hb) ho.names o_ hA.cn)
  have HR2 := a_2 (fun W (hb : Below w.heap.size w W) => b_S a.oA s.others a.oC 0 W (hA.others.below hb) ho.others o_ hA.co)
  have HH0 := a_2 (fun (x : a_3) W (hb : Below w.heap.size w W) => d_a a.nA s.names a.nC x W (hA.names.below hb) ho.names)
  intro k_
  revert HR1 HR2 HH0
  exact k_) : G := h k
theorem n_I {G H : Prop} (k : H) (h : H → G := by
  have h9 := hin2.tell (j + 1) (by rw [hxr]; simpa using h) (by simpa using h')
  intro k_
  revert h9
  exact k_) : G := h k
theorem p_o {G H : Prop} (k : H) (h : H → G := by
  have HO2 := a_2 (fun W hb => HO.out _ rfl W hb hC hok1)
  have hsl : (xs[k]).name.length ≤ maxLen := hok1.name
  intro k_
  revert HO2 hsl
  exact k_) : G := h k
theorem s_m {G H : Prop} (k : H) (h : H → G := by
  have HE0 := a_2 (fun W (hb : Below wr.heap.size wr W) => (hb.cell (p := ⟨g, off + k * 3, none⟩) hg).trans e0)
  have HE1 := a_2 (fun W (hb : Below wr.heap.size wr W) => (hb.cell (p := ⟨g, off + k * 3 + 1, none⟩) hg).trans e1)
  have HE2 := a_2 (fun W (hb : Below wr.heap.size wr W) => (hb.cell (p := ⟨g, off + k * 3 + 2, none⟩) hg).trans e2)
  have hw0 : Below wr.heap.size wr wr := b_ _ _
  intro k_
  revert HE0 HE1 HE2 hw0
  exact k_) : G := h k
theorem p_5 {G H : Prop} (k : H) (h : H → G := by
  have eg2 : ∀ args W, (callFunc 36 args).run prog W = .ok (.enter 36 args) W := fun args W => by kernel_rfl
  intro k_
  revert eg2
  exact k_) : G := h k
theorem s_8 {G H : Prop} (k : H) (h : H → G := by
  have H1 := a_2 (show 64 < sh.length → m_G o sh = 2 from fun h => if_pos h)
  have H2 := a_2 (show ¬ 64 < sh.length → inB o = false → m_G o sh = 1 from fun h h2 => by unfold m_G; rw [if_neg h, if_pos h2])
  have H3 := a_2 (show ¬ 64 < sh.length → ¬ inB o = false → m_G o sh = a_o (shE sh) sh.length from fun h h2 => by unfold m_G; rw [if_neg h, if_neg h2])
  intro k_
  revert H1 H2 H3
  exact k_) : G := h k
theorem o_r {G H : Prop} (k : H) (h : H → G := by
  have HX := a_2 (HE.out.trans (by rw [a_Y HZ.out, a_m]))
  have HO9 := HO.out
  intro k_
  revert HX HO9
  exact k_) : G := h k
theorem m_0 {G H : Prop} (k : H) (h : H → G := by
  have HZ := h_m k m x
  have HY := a_2 (d_R nm)
  intro k_
  revert HZ HY
  exact k_) : G := h k
theorem _af {G H : Prop} (k : H) (h : H → G := by
  have c5 : W.cell? ⟨b, 5, none⟩ = some (slV q c.ocols.length) := a_0 hh 5
  intro k_
  revert c5
  exact k_) : G := h k
theorem r_a {G H : Prop} (k : H) (h : H → G := by
  have hr1 := a_9 hb1 hal
  have kk : Below w1.heap.size w1 w1.drew := Below.drew (b_ _ _)
  have HS := a_2 (fun w' (hb : Below w1.heap.size w1 w') => HSx.out w' (a_1 hx1 s_ hb))
  intro k_
  revert hr1 kk HS
  exact k_) : G := h k
theorem o_D {G H : Prop} (k : H) (h : H → G := by
  have HR := a_2 (HF.out v (by rw [HT.out]; simp [a_c]) hv)
  have HV0 := a_2 hv
  intro k_
  revert HR HV0
  exact k_) : G := h k
theorem s_9 {G H : Prop} (k : H) (h : H → G := by
  have hV : Below w1.heap.size w1 ((w1.alloc (.cells #[.func (.func 208) #[] #[a_f w.heap.size]] 80)).alloc (.cells #[.func (.func 210) #[] #[a_f w1.heap.size, a_f w.heap.size], .func (.func 218) #[] #[a_f w.heap.size]] 80)) := zX
  have T2 := H2.out w1 _ hbx hw1 hV m_ (by simp [go_sem])
  have T4 := H4.out w1 _ hbx hw1 hV
  intro k_
  revert hV T2 T4
  exact k_) : G := h k
theorem p_7 {G H : Prop} (k : H) (h : H → G := by
  have hx3 := (hx2.alloc o_ (.cells #[str S] 9)).grown hgrow m_ (fun k hk => (HO.out.lt k hk).1)
  intro k_
  revert hx3
  exact k_) : G := h k
theorem r_G {G H : Prop} (k : H) (h : H → G := by
  have g0 : DataW.trod enc prog W 0 (fun _ => true) held k 9 [c0] = some y0 := by have h9 : DataW.trod enc prog W 0 (fun _ => true) held k 9 (([c0, c1, c2, c3, c4, c5, c6, c7].drop 0).take (prog.cellsOf 9)) = some y0 := hg 0 _ rfl; rw [show prog.cellsOf 9 = 1 by kernel_rfl] at h9; exact h9
  intro k_
  revert g0
  exact k_) : G := h k
theorem q_5 {G H : Prop} (k : H) (h : H → G := by
  have hS' := hSW.up ((b_ (g + 1) W).grown hgr (by have := hSW.gat.2; omega) (fun t ht => (ho.lt t ht).1))
  intro k_
  revert hS'
  exact k_) : G := h k
theorem s_B {G H : Prop} (k : H) (h : H → G := by
  have H4 := a_2 (fun (w1 V : World) (hbx : b_r w1 w.heap.size s a) (hw1 : Below w.heap.size w w1) (hV : Below w1.heap.size w1 V) => j_U w.heap.size s a V (HW.out.below (a_9 hV hw1)) (hbx.below hV) (HA.out.below (a_9 hV hw1)) HO.out (by rw [HOp.out]; omega))
  intro k_
  revert H4
  exact k_) : G := h k
theorem q_6 {G H : Prop} (k : H) (h : H → G := by
  have HC := a_2 (fun W (hW : Below w.heap.size w W) => h_5 _ _ W (HA.out.below hW) HO.out)
  intro k_
  revert HC
  exact k_) : G := h k
theorem p_O {G H : Prop} (k : H) (h : H → G := by
  have H2 := a_2 (fun W (hb : Below w.heap.size w W) => c_s ⟨x.toArray⟩ W (hW.below hb))
  intro k_
  revert H2
  exact k_) : G := h k
theorem q_G {G H : Prop} (k : H) (h : H → G := by
  have hop : op = 0 ∨ op = 1 ∨ op = 2 ∨ op = 3 ∨ op = 4 ∨ op = 5 ∨ op = 6 ∨ op = 7 ∨ op = 8 ∨ op = 9 ∨ op = 10 ∨ op = 11 ∨ op = 12 := by omega
  intro k_
  revert hop
  exact k_) : G := h k
theorem _ag {G H : Prop} (k : H) (h : H → G := by
  have HE2 := a_2 (show e_E cs names = [] from by unfold e_E; rw [if_neg (by rw [HE.out]; decide)])
  intro k_
  revert HE2
  exact k_) : G := h k
theorem q_o {G H : Prop} (k : H) (h : H → G := by
  have HS := a_2 (show shB (a, b) = (decide (a < 1) || decide (575999999 < a) || !inB b) from rfl)
  intro k_
  revert HS
  exact k_) : G := h k
theorem q_0 {G H : Prop} (k : H) (h : H → G := by
  have e2 : wr.cell? ⟨g, off + k * 3 + 2, none⟩ = some (.slice S2 m2 c2) := by simpa using hcw 2 s_
  intro k_
  revert e2
  exact k_) : G := h k
theorem r_o {G H : Prop} (k : H) (h : H → G := by
  have e0 : W.cell? ⟨E, 0, none⟩ = some evV := a_0 hE 0
  have m0 : W.cell? ⟨M, 0, none⟩ = some (.map (some b)) := a_0 hM 0
  intro k_
  revert e0 m0
  exact k_) : G := h k
theorem s_5 {G H : Prop} (k : H) (h : H → G := by
  obtain ⟨c0, c1⟩ := hc k hlt
  have HC := p_h hlt
  have HR := a_2 (fun (v : Int) (hv : shE sh k = v) (hn : v ≠ 0) => show m_G o sh = v from HE.out.trans ((a_q HN.out (by rw [hv]; exact hn) hlt).trans hv))
  have HN' := a_2 (fun hv : shE sh k = 0 => a_T HN.out hv)
  intro k_
  revert c0 c1 HC HR HN'
  exact k_) : G := h k
theorem r_Q {G H : Prop} (k : H) (h : H → G := by
  have hcur := b_ (w.heap.size + 1) (w.alloc (d_x op k m x nm a))
  have b0 : (op == 0) = false := by simpa using h0
  have b1 : (op == 1) = false := by simpa using h1
  have b20 : (op == 20) = false := by simpa using h20
  have b21 : (op == 21) = false := by simpa using h21
  intro k_
  revert hcur b0 b1 b20 b21
  exact k_) : G := h k
theorem r_X {G H : Prop} (k : H) (h : H → G := by
  have HTk := a_2 (show ([] : List a_3) ++ (cs.map Chk.name).take (k + 1) = (([] : List a_3) ++ (cs.map Chk.name).take k) ++ [(cs[k]).name] from by rw [List.take_succ_eq_append_getElem hk2, List.getElem_map]; simp only [List.append_assoc])
  intro k_
  revert HTk
  exact k_) : G := h k
theorem q_l {G H : Prop} (k : H) (h : H → G := by
  have hv0 : f_I w0 x v := by have h := hin2.tell 0 (by rw [hxr]; simp) s_; simpa [hxr] using h
  intro k_
  revert hv0
  exact k_) : G := h k
theorem q_K {G H : Prop} (k : H) (h : H → G := by
  have hs1 : src.isEmpty = false := by cases src; exact absurd rfl hs; rfl
  have hs2 : (src == []) = false := beq_eq_false_iff_ne.2 hs
  intro k_
  revert hs1 hs2
  exact k_) : G := h k
theorem s_6 {G H : Prop} (k : H) (h : H → G := by
  have hh2 := (hbel.block _ (a_6 hh)).trans hh
  have z0 : wr.cell? ⟨w.heap.size, 2, none⟩ = some (.slice S sh.length c) := by rw [a_0 hh2]; rfl
  have hsz := hbel.size
  have hbw := a_9 hbel hB
  have hbz := hB.size
  have hlw := a_6 hh
  have HH := a_2 hh
  intro k_
  revert hh2 z0 hsz hbw hbz hlw HH
  exact k_) : G := h k
theorem p_U {G H : Prop} (k : H) (h : H → G := by
  have hn0 := k_z l i
  have hn1 := n_D l i
  have HAt := a_2 (e_r L l i w lc HL.out)
  intro k_
  revert hn0 hn1 HAt
  exact k_) : G := h k
theorem _ah {G H : Prop} (k : H) (h : H → G := by
  have HR := a_2 (HF.out 4 (by rw [HT.out]; simp [a_c]) d_)
  intro k_
  revert HR
  exact k_) : G := h k
theorem r_V {G H : Prop} (k : H) (h : H → G := by
  have f0 : (n % 9 == 0) = false := beq_eq_false_iff_ne.2 e0
  have f1 : (n % 9 == 1) = false := beq_eq_false_iff_ne.2 e1
  have f2 : (n % 9 == 2) = false := beq_eq_false_iff_ne.2 e2
  have f3 : (n % 9 == 3) = false := beq_eq_false_iff_ne.2 e3
  intro k_
  revert f0 f1 f2 f3
  exact k_) : G := h k
theorem s_p {G H : Prop} (k : H) (h : H → G := by
  have HT := a_2 (l_t hlt)
  have HF := a_2 (fun x (e : g_i ss k = x) (hx : x ≠ 0) => (HE.out.trans (a_q HZ.out (by rw [e]; exact hx) hlt)).trans e)
  have HN := a_2 (fun (e : g_i ss k = 0) => a_T HZ.out e)
  intro k_
  revert HT HF HN
  exact k_) : G := h k
theorem l_R {G H : Prop} (k : H) (h : H → G := by
  obtain ⟨i0, hi, hz0, hz1, hz2⟩ := info_parts Tryz.info_text
  intro k_
  revert i0 hi hz0 hz1 hz2
  exact k_) : G := h k
theorem p_X {G H : Prop} (k : H) (h : H → G := by
  have hxr := HX.out
  have hl4 : m.defs.mdls.length = (x' :: r).length := by rw [hxr]; rfl
  intro k_
  revert hxr hl4
  exact k_) : G := h k
theorem s_y {G H : Prop} (k : H) (h : H → G := by
  have HE := a_2 (fun (kind j : Int) (W : World) (hb : Below w.heap.size w W) (j0 : 0 ≤ j) (j1 : j ≤ 2 * i + 2) => hI kind j C cs cc L l lc W (hC.below hb) hco hcl (hL.below hb) j0 o_)
  have htop := j_K d
  intro k_
  revert HE htop
  exact k_) : G := h k
theorem s_A {G H : Prop} (k : H) (h : H → G := by
  have hB : Below w.heap.size w W1 := by subst hW; exact zX
  have hh : W1.heap[w.heap.size]? = some (.cells #[.string nm, .int .i64 o, .slice S sh.length c] 47) := by subst hW; exact heap_alloc_new w _
  intro k_
  revert hB hh
  exact k_) : G := h k
theorem q_b {G H : Prop} (k : H) (h : H → G := by
  have e1 : a.tmps.getD 5 undef = .pointer (some ⟨b, 0, none⟩) := hf.outer 5 k_
  intro k_
  revert e1
  exact k_) : G := h k
theorem s_t {G H : Prop} (k : H) (h : H → G := by
  have HN := a_2 (fun W (hW : Below wr.heap.size wr W) => (nd_of_cells (w := W) (g := g) (off := off) (es := es) (fun j u hu => (hW.cell (p := ⟨g, off + j, none⟩) hg).trans (hc j u hu)) k hlt))
  intro k_
  revert HN
  exact k_) : G := h k
theorem p_P {G H : Prop} (k : H) (h : H → G := by
  have HR := a_2 (HF.out 8 (HT2.out.trans (if_neg (by simp [ho, hk0]))) d_)
  intro k_
  revert HR
  exact k_) : G := h k
theorem p_g {G H : Prop} (k : H) (h : H → G := by
  have hinb : decide (x ∈ l.take k) = false := by simpa using hin
  intro k_
  revert hinb
  exact k_) : G := h k
theorem _ai {G H : Prop} (k : H) (h : H → G := by
  have hheap := a_y h (Nat.lt_succ_self _)
  intro k_
  revert hheap
  exact k_) : G := h k
theorem p_r {G H : Prop} (k : H) (h : H → G := by
  have hinb : decide (x ∈ l.take k) = true := by simpa using hin
  intro k_
  revert hinb
  exact k_) : G := h k
theorem o_J {G H : Prop} (k : H) (h : H → G := by
  obtain ⟨vs, hC, hcs⟩ := hc k hlt
  have hcw := hcs.below hg hbel
  intro k_
  revert vs hC hcs hcw
  exact k_) : G := h k
theorem r_M {G H : Prop} (k : H) (h : H → G := by
  have HE := a_2 (show j_q cs names = 0 from a_Y HZ.out)
  have HE2 := a_2 (show e_E cs names = names.map (c_k cs) from by unfold e_E; rw [if_pos HE.out])
  have HO := a_2 hown
  intro k_
  revert HE HE2 HO
  exact k_) : G := h k
theorem o_y {G H : Prop} (k : H) (h : H → G := by
  obtain ⟨vs, hC, hcs⟩ := hc k hlt
  have hcw := hcs.below hg hw0
  intro k_
  revert vs hC hcs hcw
  exact k_) : G := h k
theorem r_p {G H : Prop} (k : H) (h : H → G := by
  have e : (⟨B, 0, none⟩ : Addr).add j = ⟨B, j, none⟩ := by unfold Addr.add; split <;> simp_all
  intro k_
  revert e
  exact k_) : G := h k
theorem p_N {G H : Prop} (k : H) (h : H → G := by
  have HF := a_2 (show shB (a, b) = false by rw [HS.out]; simp; omega)
  intro k_
  revert HF
  exact k_) : G := h k
theorem q_n {G H : Prop} (k : H) (h : H → G := by
  have HR := a_2 (HN.out (HT2.out.trans (if_pos (by simp [ho, hk0]))))
  intro k_
  revert HR
  exact k_) : G := h k
theorem q_e {G H : Prop} (k : H) (h : H → G := by
  have HX := a_2 (show opS s = g_1 s from by unfold opS; simp [hop])
  intro k_
  revert HX
  exact k_) : G := h k
theorem p_2 {G H : Prop} (k : H) (h : H → G := by
  have HOy := a_2 (fun W hb => HOx.out _ rfl W hb hC hok1)
  intro k_
  revert HOy
  exact k_) : G := h k
theorem r_l {G H : Prop} (k : H) (h : H → G := by
  have hv0 : h_f w0 x v := by have h := hin2.tell 0 (by rw [hxr]; simp) s_; simpa [hxr] using h
  intro k_
  revert hv0
  exact k_) : G := h k
theorem _aj {G H : Prop} (k : H) (h : H → G := by
  have HR := a_2 (fun W (hb : Below w.heap.size w W) => c_s nm W (hW.below hb))
  intro k_
  revert HR
  exact k_) : G := h k
theorem r_4 {G H : Prop} (k : H) (h : H → G := by
  have e1 : a.tmps.getD 5 undef = .pointer (some ⟨w.heap.size + 1, 0, none⟩) := hf.outer 5 k_
  intro k_
  revert e1
  exact k_) : G := h k
theorem o_u {G H : Prop} (k : H) (h : H → G := by
  have hlx : w.heap.size < wr.heap.size := by omega
  intro k_
  revert hlx
  exact k_) : G := h k
theorem r_q {G H : Prop} (k : H) (h : H → G := by
  have hnl2 : (n : Int) < (s.cols.length : Int) := by omega
  have hn0 : ¬ (n : Int) < 0 := by omega
  intro k_
  revert hnl2 hn0
  exact k_) : G := h k
theorem n_4 {G H : Prop} (k : H) (h : H → G := by
  have hs2 := hb2.size
  have hs3 := hb3.size
  intro k_
  revert hs2 hs3
  exact k_) : G := h k
theorem s_n {G H : Prop} (k : H) (h : H → G := by
  have s0 := a_0 hW 0
  have s1 := a_0 hW 1
  have s2 := a_0 hW 2
  have s3 := a_0 hW 3
  have s4 := a_0 hW 4
  have s5 := a_0 hW 5
  intro k_
  revert s0 s1 s2 s3 s4 s5
  exact k_) : G := h k
theorem m_2 {G H : Prop} (k : H) (h : H → G := by
  have he := HE.out
  have hy := HY.out
  intro k_
  revert he hy
  exact k_) : G := h k
theorem s_q {G H : Prop} (k : H) (h : H → G := by
  have c2 : W.cell? ⟨b, 2, none⟩ = some (.int .i64 c.kind) := a_0 hh 2
  have c13 : W.cell? ⟨b, 13, none⟩ = some (.int .i64 c.pol) := a_0 hh 13
  intro k_
  revert c2 c13
  exact k_) : G := h k
theorem r_S {G H : Prop} (k : H) (h : H → G := by
  have HE := a_2 (HE1.out.trans (by rw [a_G (by simp [hc, d_M]), a_m]))
  have hc2 : (ow == [99, 111, 115, 116]) = false := beq_eq_false_iff_ne.2 hc
  intro k_
  revert HE hc2
  exact k_) : G := h k
theorem p_G {G H : Prop} (k : H) (h : H → G := by
  have hm := i_8 k
  have hm2 : 0 ≤ k % 4 ∧ k % 4 ≤ 3 := by omega
  intro k_
  revert hm hm2
  exact k_) : G := h k
theorem r_9 {G H : Prop} (k : H) (h : H → G := by
  have hxr := HX.out
  have hl4 : m.defs.srcs.length = (x' :: r).length := by rw [hxr]; rfl
  intro k_
  revert hxr hl4
  exact k_) : G := h k
theorem _ak {G H : Prop} (k : H) (h : H → G := by
  have HV := a_2 (fun x hf => k_b (x := x) H256.out HR.out hlt hf)
  have HS := a_2 (fun st' hf => c_0.step (st' := st') HR.out hlt hf)
  intro k_
  revert HV HS
  exact k_) : G := h k
theorem o_o {G H : Prop} (k : H) (h : H → G := by
  have h' : j < fs.length := by simpa using h
  intro k_
  revert h'
  exact k_) : G := h k
theorem r_i {G H : Prop} (k : H) (h : H → G := by
  have hr2 : op = 0 ∨ (4 ≤ op ∧ op ≤ 9) := by unfold h_V at hr; simp at hr; omega
  intro k_
  revert hr2
  exact k_) : G := h k
theorem s_x {G H : Prop} (k : H) (h : H → G := by
  have HN := a_2 (fun V (hb : Below W.heap.size W V) => b_v (c.cols.getD 0 []) V ((hW.below hW2).below hb))
  have hs2 := hs.1.below hW2
  intro k_
  revert HN hs2
  exact k_) : G := h k
theorem o_M {G H : Prop} (k : H) (h : H → G := by
  have hr := (hw0.block g (a_6 hs)).trans hs
  intro k_
  revert hr
  exact k_) : G := h k
theorem q_i {G H : Prop} (k : H) (h : H → G := by
  have hpos : (0 : Int) < (m.defs.mdls.length : Int) := by omega
  intro k_
  revert hpos
  exact k_) : G := h k
theorem s_j {G H : Prop} (k : H) (h : H → G := by
  have HAr := a_2 (fun W => e_l es[k].op es[k].val.kind es[k].val.num es[k].arity ⟨es[k].val.text.toArray⟩ ⟨es[k].name.toArray⟩ W)
  intro k_
  revert HAr
  exact k_) : G := h k
theorem o_p {G H : Prop} (k : H) (h : H → G := by
  have HT2 := a_2 (HT.out.trans (if_pos rfl))
  intro k_
  revert HT2
  exact k_) : G := h k
theorem s_4 {G H : Prop} (k : H) (h : H → G := by
  have c4 : W.cell? ⟨b, 4, none⟩ = some (str c.other) := a_0 hh 4
  have HN := a_2 (a_O c.other W (hW.below hW2) hx)
  intro k_
  revert c4 HN
  exact k_) : G := h k
theorem r_H {G H : Prop} (k : H) (h : H → G := by
  have e : (fs.map Thk.v).getD j 0 = fs[j].v := by rw [List.getD_eq_getElem?_getD, List.getElem?_eq_getElem (by simpa using h')]; simp
  intro k_
  revert e
  exact k_) : G := h k
theorem o_n {G H : Prop} (k : H) (h : H → G := by
  have hok1 := HOk.out _ (List.getElem_mem hlt)
  intro k_
  revert hok1
  exact k_) : G := h k
theorem _al {G H : Prop} (k : H) (h : H → G := by
  have hb4 : Below wc.heap.size wc (wc.alloc (.cells #[str [99, 111, 114, 101], str [115, 97, 108, 101, 115]] 9)) := (b_ _ _).alloc (l_ _) _
  intro k_
  revert hb4
  exact k_) : G := h k
theorem s_a {G H : Prop} (k : H) (h : H → G := by
  have hgo := HG.out k hlt
  have HF := a_2 (fun (hx : f k ≠ 0) => a_q HZ.out hx hlt)
  have HN := a_2 (fun (e : f k = 0) => a_T HZ.out e)
  intro k_
  revert hgo HF HN
  exact k_) : G := h k
theorem p_E {G H : Prop} (k : H) (h : H → G := by
  have HF2 := a_2 HF
  have HV2 := a_2 (a_5 HV)
  intro k_
  revert HF2 HV2
  exact k_) : G := h k
theorem q_V {G H : Prop} (k : H) (h : H → G := by
  have HA1 := a_2 (fun W => by have := HAr.out W; rw [ha1] at this; exact this)
  intro k_
  revert HA1
  exact k_) : G := h k
theorem p_I {G H : Prop} (k : H) (h : H → G := by
  have HR := a_2 (HF.out u (by rw [HT.out, if_neg hu]) hu)
  intro k_
  revert HR
  exact k_) : G := h k
theorem k_e {p : Prop} (h : p := by
  go_ret
  exact ⟨a_a (by simp_all [b_z] <;> first | omega | (cases lc <;> simp <;> omega) | (cases src <;> simp)), zX⟩) : p := h
theorem d_e {p : Prop} (h : p := by
  go_ret
  exact ⟨a_d HR.out.symm, hr1⟩) : p := h
theorem d_d {p : Prop} (h : p := by
  exact hK _ _ ⟨b_ _ _, fun V hV => rfl⟩) : p := h
theorem f_c {p : Prop} (h : p := by
  go_ret
  exact ⟨a_d HR.out.symm, b_ _ _⟩) : p := h
theorem k_p {p : Prop} (h : p := by
  go_ret
  exact ⟨by rw [HV.out]; rfl, by first | exact hbw | (exact zX; done) | exact hbw.alloc o_ _⟩) : p := h
theorem k_1 {p : Prop} (h : p := by
  go_ret
  exact ⟨a_d HR.out.symm, hfin _ hr2, fun e => absurd (HR.out.symm.trans e) d_⟩) : p := h
theorem _am {p : Prop} (h : p := by
  exact g_L CC.out (⟨d_, d_⟩) _ (fun _ _ => by first | (go_simp; done) | (go_simp; rfl)) rfl) : p := h
theorem d_s {p : Prop} (h : p := by
  go_ret
  exact ⟨rfl, hb1⟩) : p := h
theorem n_z {p : Prop} (h : p := by
  obtain rfl : g = g' := by injection h1 with h1; injection h1
  rw [hh'] at ho
  exact ⟨_, _, .inr (Option.some.inj ho).symm⟩) : p := h
theorem l_p {p : Prop} (h : p := by
  go_ret
  exact ⟨a_d HR.out.symm, by first | exact a_9 hb1 zX | exact zX⟩) : p := h
theorem i_M {p : Prop} (h : p := by
  go_ret
  exact ⟨a_d HR.out.symm, a_9 hb1 hbel⟩) : p := h
theorem o_m {p : Prop} (h : p := by
  have hs5 := HS4.out.kept hb5 HS4.out.lt
  rw [HL.out, Nat.add_assoc] at hs5
  exact ⟨⟨k + 1, o_, t_, HR, hs5, h_E HG4.out hb5⟩, w_⟩) : p := h
theorem k_n {p : Prop} (h : p := by
  go_ret
  exact ⟨a_d HV.out.symm, a_9 hb2 (a_5 hcur)⟩) : p := h
theorem o_x {p : Prop} (h : p := by
  refine ⟨⟨k + 1, A3, c3, o_, t_, by rw [HTk.out]; simp, ?_⟩, w_⟩
  rw [HTk.out]
  exact ⟨by simpa using hown3, hb3⟩) : p := h
theorem i_N {p : Prop} (h : p := by
  go_ret
  exact ⟨a_d HR.out.symm, hbel⟩) : p := h
theorem o_l {p : Prop} (h : p := by
  go_ret
  exact ⟨a_d HR.out.symm, h_E HG4.out hb5, fun e => absurd (HR.out.symm.trans e) HV0.out⟩) : p := h
theorem j_X {p : Prop} (h : p := by
  go_ret
  exact ⟨a_d HE.out.symm, b_ _ _⟩) : p := h
theorem _an {p : Prop} (h : p := by
  go_ret
  exact ⟨⟨es, g, A, c, rfl, own⟩, hb⟩) : p := h
theorem o_z {p : Prop} (h : p := by
  exact ⟨⟨k + 1, B3, d3, by rw [HTk.out, e2], t_, o_, HR, by rw [HTk.out]; exact HFin, hx3⟩, w_⟩) : p := h
theorem k_w {p : Prop} (h : p := by
  go_ret
  exact ⟨a_a (by rw [HE.out]), rfl⟩) : p := h
theorem o_B {p : Prop} (h : p := by
  exact ⟨⟨k + 1, B3, d3, by rw [HTk.out, e2], t_, o_, by rw [HTk.out]; exact HFin, hx3⟩, w_⟩) : p := h
theorem k_4 {p : Prop} (h : p := by
  go_ret
  exact ⟨a_d HR.out.symm, zX⟩) : p := h
theorem q_c {p : Prop} (h : p := by
  exact ⟨hb, fun V hV => ⟨A', c', rfl, a_B.own (own_low ho (by have := (hc.1 hL).gat.2; omega)) (fun _ _ _ _ => nXB d_ d_) (fun _ h => h) V hV⟩⟩) : p := h
theorem o_s {p : Prop} (h : p := by
  go_ret
  exact ⟨a_d HE.out.symm, g_ _ _, fun e => absurd (HE.out.symm.trans e) d_⟩) : p := h
theorem n_3 {p : Prop} (h : p := by
  go_ret
  exact ⟨a_a (by rw [HE.out]), k_f _ _ _⟩) : p := h
theorem o_b {p : Prop} (h : p := by
  refine a_Q k_ ?_
  exact c_H CC.out 8 rfl k_ (fun _ => rfl)) : p := h
theorem p_Q {p : Prop} (h : p := by
  exact hK _ _ ⟨⟨fun h => by simp [e_b, hLz] at h, fun h => by simp [e_b] at h, fun _ => hfin⟩, .inr hX', fun h => by cases h⟩) : p := h
theorem q_j {p : Prop} (h : p := by
  exact hK _ _ ⟨(b_ _ _).alloc (l_ _) _, fun V hV => ⟨_, rfl, CC.out.keep L _ _ _ _ _ ⟨d_, d_⟩ hV (heap_alloc_new _ _)⟩⟩) : p := h
theorem _ao {p : Prop} (h : p := by
  go_ret
  rw [HR.out]
  exact ⟨⟨A3, c3, by rw [HLn.out]; rfl, e_h HO.out, (c_L HO.out).1, (c_L HO.out).2.1, fun e => ((c_L HO.out).2.2 e).2⟩, hb3⟩) : p := h
theorem l_Q {p : Prop} (h : p := by
  go_ret
  exact ⟨a_d HR.out.symm, hr3⟩) : p := h
theorem o_I {p : Prop} (h : p := by
  refine a_Q k_ ?_
  exact c_H CC.out 7 rfl k_ (fun _ => rfl)) : p := h
theorem m_H {p : Prop} (h : p := by
  exact c_H CC.out 0 rfl k_ (fun _ => rfl)) : p := h
theorem o_j {p : Prop} (h : p := by
  go_ret
  exact ⟨a_d HR.out.symm, HGr.out, fun _ => HS8.out⟩) : p := h
theorem m_o {p : Prop} (h : p := by
  go_ret
  exact ⟨a_d HE.out.symm, hb1⟩) : p := h
theorem p_K {p : Prop} (h : p := by
  rintro e w1 ⟨⟨n1, rfl, p1, p2⟩, hb1⟩
  exact ⟨_, rfl, hK _ _ ⟨hb1, fun V hV => ⟨n1, rfl, p1, p2⟩⟩⟩) : p := h
theorem o_E {p : Prop} (h : p := by
  go_ret
  exact ⟨a_d HX.out.symm, a_9 hb2 (a_9 hwb hw1)⟩) : p := h
theorem q_7 {p : Prop} (h : p := by
  exact ⟨⟨k + 1, B, d, by rw [HN.out], t_, o_, by rw [HN.out]; exact a_g HO.out zX, zX⟩, w_⟩) : p := h
theorem r_C {p : Prop} (h : p := by
  exact ⟨⟨k + 1, _, A3, c3, _, st', rfl, t_, o_, a_2 HFin.out.1, by rw [HFin.out.2.1]; omega, a_2 HFin.out.2.2.1, HFin.out.2.2.2, hb6⟩, w_⟩) : p := h
theorem n_1 {p : Prop} (h : p := by
  go_ret
  exact ⟨a_d HR.out.symm, hr5⟩) : p := h
theorem _ap {p : Prop} (h : p := by
  go_ret
  exact a_J (f_i hS hC)) : p := h
theorem s_2 {p : Prop} (h : p := by
  exact ⟨⟨[99, 99], [111, 114, 100, 101, 114, 115], kind, ls, [], [], 0, 0, [], 0, 0, 0, 0, pol⟩, (some ⟨g, 0, none⟩, 3), (none, 0), (none, 0), (hw.set 3 _).1, i_U _ _ _ _ _ _ _ _ hm s_ s_ (.inl rfl), (lx3 hN b_n e_W).go (hw.set 3 _).2⟩) : p := h
theorem o_F {p : Prop} (h : p := by
  go_ret
  exact ⟨a_d HR.out.symm, a_5 hx1⟩) : p := h
theorem q_u {p : Prop} (h : p := by
  go_ret
  exact ⟨a_d HR.out.symm, by first | exact a_9 hb1 hbel | exact a_4 (a_9 hb1 hbel) 1 | exact zX⟩) : p := h
theorem p_q {p : Prop} (h : p := by
  go_ret
  exact ⟨a_d HR.out.symm, a_9 (a_9 hb1 zX) hbel⟩) : p := h
theorem n_p {p : Prop} (h : p := by
  go_ret
  exact ⟨a_d HR.out.symm, hr2⟩) : p := h
theorem n_j {p : Prop} (h : p := by
  go_ret
  exact ⟨a_d HE.out.symm, zX⟩) : p := h
theorem o_A {p : Prop} (h : p := by
  exact ⟨⟨n + 1, o_, t_, HR, a_9 hb1 hbel⟩, w_⟩) : p := h
theorem s_u {p : Prop} (h : p := by
  exact hK _ _ ⟨⟨{ x' with zone := s }, b_C (j := 4) h1' s_, { h2' with zone := hsl }, h3', h4', h5'.trans (But.set g 4 W _), h6'.setCell hg _⟩, (i_w ⟨_, _, h1'⟩).1, fun h => by cases h⟩) : p := h
theorem o_N {p : Prop} (h : p := by
  go_ret
  exact ⟨a_d HX.out.symm, a_5 hb1⟩) : p := h
theorem k_t {p : Prop} (h : p := by
  go_ret
  exact ⟨rfl, zX⟩) : p := h
theorem _aq {p : Prop} (h : p := by
  have h1 := HO.out
  rw [List.take_length] at h1
  have h2 : (names.map (c_k cs)).length = names.length := by simp
  rw [← h2] at h1
  rw [HE2.out]
  exact (h_Z h1 x_).1) : p := h
theorem r_d {p : Prop} (h : p := by
  go_ret
  exact ⟨a_a (by rw [HE.out]; first | (simp_all; done) | (simp_all; omega)), rfl⟩) : p := h
theorem q_1 {p : Prop} (h : p := by
  go_ret
  exact ⟨⟨B, d, rfl, own_low HO.out o_⟩, a_5 hx⟩) : p := h
theorem s_s {p : Prop} (h : p := by
  obtain ⟨o', ho', hs'⟩ := Option.bind_eq_some_iff.1 hs
  obtain rfl := hun j o' ho' hs'
  rw [e_H, if_pos ⟨rfl, hsz⟩]
  exact h3 (by simp [hdst])) : p := h
theorem p_d {p : Prop} (h : p := by
  go_ret
  exact ⟨by rw [HV.out]; rfl, rfl⟩) : p := h
theorem o_P {p : Prop} (h : p := by
  go_ret
  exact ⟨a_d HR.out.symm, hbw⟩) : p := h
theorem q_J {p : Prop} (h : p := by
  go_ret
  exact ⟨rfl, hW1.grown hg1 s_ (fun k hk => by cases hk; exact l_ _)⟩) : p := h
theorem p_v {p : Prop} (h : p := by
  go_ret
  exact ⟨a_d HR.out.symm, hr⟩) : p := h
theorem q_m {p : Prop} (h : p := by
  go_ret
  exact ⟨a_d HX.out.symm, a_5 hb2⟩) : p := h
theorem m_Y {p : Prop} (h : p := by
  go_ret
  exact ⟨rfl, rfl⟩) : p := h
theorem p_F {p : Prop} (h : p := by
  go_ret
  exact ⟨rfl, a_9 hb2 HV2.out⟩) : p := h
theorem _ar {p : Prop} (h : p := by
  refine a_Q k_ ?_
  exact c_H CC.out 6 rfl k_ (fun _ => rfl)) : p := h
theorem q_Q {p : Prop} (h : p := by
  exact ⟨_, _, _, _, _, _, _, _, _, _, _, _, _, _, _, _, _, _, _, rfl⟩) : p := h
theorem p_M {p : Prop} (h : p := by
  exact hK _ _ ⟨b_ _ _, fun V hV => ⟨_, rfl, hm2⟩⟩) : p := h
theorem q_3 {p : Prop} (h : p := by
  rw [World.cell?_alloc_lt _ _ _ hb]
  exact hc) : p := h
theorem s_i {p : Prop} (h : p := by
  obtain ⟨e, he, hb⟩ := List.any_eq_true.1 hj
  simp only [Bool.and_eq_true, beq_iff_eq] at hb
  exact hb.2 ▸ ha e he hb.1) : p := h
theorem s_l {p : Prop} (h : p := by
  obtain ⟨h1, h2⟩ := hc i hi
  exact ⟨(hb.cell (p := ⟨g, _, none⟩) hg).trans h1, (hb.cell (p := ⟨g, _, none⟩) hg).trans h2⟩) : p := h
theorem s_g {p : Prop} (h : p := by
  go_ret
  exact ⟨⟨_, j_F (v := vl0) rfl, rfl, (fun e => by cases e), A1, c1, rfl, own_low hown hsz⟩, a_9 hb1 hbel⟩) : p := h
theorem p_Z {p : Prop} (h : p := by
  exact ⟨⟨k + 1, o_, t_, HR, a_9 hb1 hbel⟩, w_⟩) : p := h
theorem r_T {p : Prop} (h : p := by
  go_ret
  exact ⟨⟨_, j_F hv, rfl, (fun e => by cases e), A1, c1, rfl, own_low hown o_⟩, a_9 hb2 (a_9 hb1 hbel)⟩) : p := h
theorem q_2 {p : Prop} (h : p := by
  go_ret
  exact ⟨by rw [HE.out]; rfl, hbel⟩) : p := h
theorem q_d {p : Prop} (h : p := by
  exact c_H CC.out 2 rfl k_ (fun _ => rfl)) : p := h
theorem _as {p : Prop} (h : p := by
  go_ret
  exact ⟨by rw [HE.out]; rfl, rfl⟩) : p := h
theorem q_h {p : Prop} (h : p := by
  go_ret
  exact ⟨a_d HR.out.symm, hb1⟩) : p := h
theorem s_z {p : Prop} (h : p := by
  obtain rfl : b = g := Option.some.inj e
  rw [hh] at hb
  exact hx (.inl ⟨_, _, (Option.some.inj hb).symm⟩)) : p := h
theorem p_R {p : Prop} (h : p := by
  go_ret
  exact ⟨by rw [HV.out]; rfl, zX⟩) : p := h
theorem r_N {p : Prop} (h : p := by
  go_ret
  exact ⟨a_a (by first | (rw [HX.out]; rfl) | (simp; intros; omega) | (simp_all; done)), zX⟩) : p := h
theorem s_k {p : Prop} (h : p := by
  exact g_L CC.out (show 9 ≠ 57 by decide) _ (fun _ _ => by first | (go_simp; done) | (go_simp; rfl)) rfl) : p := h
theorem r_R {p : Prop} (h : p := by
  exact g_L CC.out (show 9 ≠ 62 by decide) _ (fun _ _ => by first | (go_simp; done) | (go_simp; rfl)) rfl) : p := h
theorem s_r {p : Prop} (h : p := by
  exact ⟨u1, hM.go o_ ((hb4.mono o_).setCell hTg _) ((KeepX.of hb4).trans u2), (a_9 hb4 hr).setCell o_ _⟩) : p := h
theorem r_h {p : Prop} (h : p := by
  go_ret
  exact ⟨a_d HX.out.symm, a_5 hb3⟩) : p := h
theorem r_7 {p : Prop} (h : p := by
  go_ret
  exact ⟨a_d HR.out.symm, a_5 hx2⟩) : p := h
theorem r_Y {p : Prop} (h : p := by
  go_ret
  exact ⟨by rw [HV.out]; rfl, by first | (exact zX; done) | exact (hbw.alloc o_ _).drew⟩) : p := h
theorem _at {p : Prop} (h : p := by
  exact g_L CC.out (⟨d_, d_, d_⟩) _ (fun _ _ => by first | (go_simp; done) | (go_simp; rfl)) rfl) : p := h
theorem q_s {p : Prop} (h : p := by
  go_ret
  exact ⟨a_d HR.out.symm, a_9 hb1 hb0⟩) : p := h
theorem s_f {p : Prop} (h : p := by
  go_ret
  exact ⟨⟨[m], d_A.leaf _ hm1 hm2 hm3, A, c, rfl, own_low own hb0.size⟩, a_9 hb hb0⟩) : p := h
theorem s_c {p : Prop} (h : p := by
  go_ret
  exact ⟨a_d HR.out.symm, by first | exact hr | exact a_4 hr _ | exact zX⟩) : p := h
theorem r_U {p : Prop} (h : p := by
  exact ⟨⟨k + 1, A3, c3', by rw [HN.out, e2], t_, o_, by rw [HN.out]; exact HFin.out, hb3⟩, w_⟩) : p := h
theorem s_E {p : Prop} (h : p := by
  go_ret2
  exact ⟨by rw [HT.out]; first | rfl | (simp; done) | (simp [hw]; done), _, rfl⟩) : p := h
theorem p_J {p : Prop} (h : p := by
  go_ret
  exact ⟨rfl, a_9 hb1 zX⟩) : p := h
theorem q_a {p : Prop} (h : p := by
  exact ⟨⟨k + 1, o_, t_, HV, zX⟩, w_⟩) : p := h
theorem l_ (n : Nat) : n ≤ n := Nat.le_refl n
theorem b_ (B : Nat) (w : World) : Below B w w := Below.refl B w
theorem g_ (w : World) (r : Option Nat) : w.grownBy w r := World.grownBy.refl w r
theorem o_ {p : Prop} (h : p := by omega) : p := h
theorem d_ {p : Prop} (h : p := by decide) : p := h
theorem s_ {p : Prop} (h : p := by simp) : p := h
theorem r_ {p : Prop} (h : p := by rfl) : p := h
theorem m_ {p : Prop} (h : p := by simp; omega) : p := h
theorem x_ {p : Prop} (h : p := by unfold maxLen; omega) : p := h
theorem n_ {p : Prop} (h : p := by first | (simp; done) | (simp; omega)) : p := h
theorem k_ {p : Prop} (h : p := by kernel_rfl) : p := h
theorem c_ {p : Prop} (h : p := by simp [Value.oneCell']) : p := h
theorem i_ {p : Prop} (h : p := by intro e; injection e with e; omega) : p := h
theorem j_ {p : Prop} (h : p := by injection e with e; omega) : p := h
theorem v_ {p : Prop} (h : p := by first | rfl | (simp; done)) : p := h
theorem w_ {p : Prop} (h : p := by simp [intOf]; omega) : p := h
theorem t_ {p : Prop} (h : p := by go_num) : p := h
theorem y_ {p : Prop} (h : p := by show wr.heap.size < _; omega) : p := h
theorem z_ {p : Prop} (h : p := by simp only; omega) : p := h
theorem e_ {p : Prop} (h : p := by rw [e]; simp) : p := h
abbrev a_3 := List UInt8
def bs (s : ByteArray) : a_3 := s.data.toList
def e_N (c : UInt8) : Bool := decide (97 ≤ c.toNat) && decide (c.toNat ≤ 122)
def j_O (c : UInt8) : Bool := decide (48 ≤ c.toNat) && decide (c.toNat ≤ 57)
def d_6 (c : UInt8) : Bool := e_N c || j_O c || (c.toNat == 95)
def f_Q (l : a_3) : Nat := (l.takeWhile d_6).length
theorem b_U (s : ByteArray) : (bs s).length = s.size := rfl
theorem a_2 {p : Prop} (h : p) : Hid p := h
theorem a_d {k : IntKind} {a b : Int} (h : a = b) : Ending.returned (.int k a) = .returned (.int k b) := by rw [h]
theorem a_a {a b : Bool} (h : a = b) : Ending.returned (.bool a) = .returned (.bool b) := by rw [h]
theorem g_x {c : UInt8} (h : d_6 c = true) : e_N c = true ∨ (e_N c = false ∧ j_O c = true) ∨ (e_N c = false ∧ j_O c = false ∧ ((c.toNat : Int) == 95) = true) := by
 unfold d_6 at h
 cases h1 : e_N c <;> cases h2 : j_O c <;> simp_all <;> omega
theorem j_L {c : UInt8} (h : d_6 c = false) : e_N c = false ∧ j_O c = false ∧ ((c.toNat : Int) == 95) = false := by
 unfold d_6 at h
 cases h1 : e_N c <;> cases h2 : j_O c <;> simp_all <;> omega
structure Tok where
 kind : Int
 text : a_3
 num : Int
 off : Int
abbrev str (l : a_3) : Value := .string ⟨l.toArray⟩
def Tok.cells (t : Tok) : List Value := [.int .i64 t.kind, str t.text, .int .i64 t.num, .int .i64 t.off]
abbrev Tok.agg (t : Tok) : Value := .agg #[.int .i64 t.kind, str t.text, .int .i64 t.num, .int .i64 t.off]
theorem c_y (s : ByteArray) : (⟨(bs s).toArray⟩ : ByteArray) = s := by simp [bs]
theorem h_k (s : ByteArray) (a b : Nat) : bs (s.extract a b) = ((bs s).take b).drop a := by
 simp only [bs, ByteArray.data_extract, Array.toList_extract, List.extract_eq_take_drop]
 rw [List.drop_take]
def t_6 (l : a_3) (p : Nat) : Bool := if h : p + 1 < l.length then (l[p].toNat == 46) && e_N l[p+1] else false
def q_C (l : a_3) : Except Int (Tok × Nat) :=
 if 24 < f_Q l then .error 4
 else if t_6 l (f_Q l) = true then
  if 24 < f_Q (l.drop (f_Q l + 1)) then .error 4
  else .ok (⟨1, l.take (f_Q l + (1 + f_Q (l.drop (f_Q l + 1)))), 0, 0⟩, f_Q l + (1 + f_Q (l.drop (f_Q l + 1))))
 else .ok (⟨1, l.take (f_Q l), 0, 0⟩, f_Q l)
def p_0 (l : a_3) : Nat := (l.takeWhile j_O).length
def s_w (l : a_3) : Int := l.foldl (fun v c => min (10 * v + ((c.toNat : Int) - 48)) 1073741825) 0
def q_I (l : a_3) (p : Nat) : Bool := if h : p < l.length then e_N l[p] || (l[p].toNat == 95) else false
def t_n (l : a_3) : Except Int (Tok × Nat) :=
 if (match l with | c :: _ => (c.toNat == 48) && decide (1 < p_0 l) | [] => false) || q_I l (p_0 l) then .error 3
 else if 1073741824 < s_w (l.take (p_0 l)) then .error 1
 else .ok (⟨2, [], s_w (l.take (p_0 l)), 0⟩, p_0 l)
def o_4 : a_3 → Option (a_3 × Nat)
 | [] => none
 | [c] => if c.toNat = 39 then some ([], 1) else none
 | c :: d :: r =>
  if c.toNat = 39 then
   if d.toNat = 39 then (o_4 r).map fun x => (d :: x.1, x.2 + 2) else some ([], 1)
  else (o_4 (d :: r)).map fun x => (c :: x.1, x.2 + 1)
def t_8 (l : a_3) : Except Int (Tok × Nat) :=
 match o_4 (l.drop 1) with
 | none => .error 3
 | some (t, n) => if 64 < t.length then .error 2 else .ok (⟨3, t, 0, 0⟩, n + 1)
def o_Z (y : Int) : Bool := (y % 4 == 0) && (y % 100 != 0) || (y % 400 == 0)
def s_C (y m : Int) : Int := if m = 2 then (if o_Z y = true then 29 else 28) else if m = 4 ∨ m = 6 ∨ m = 9 ∨ m = 11 then 30 else 31
def q_E (y : Int) : Int := if o_Z y = true then 366 else 365
def s_b : Nat → Int
 | 0 => 0
 | k + 1 => s_b k + q_E (1970 + k)
def s_h (y : Int) : Nat → Int
 | 0 => 0
 | k + 1 => s_h y k + s_C y (1 + k)
def r_0 (y m d : Int) : Bool := decide (1970 ≤ y) && decide (y ≤ 3065) && decide (1 ≤ m) && decide (m ≤ 12) && decide (1 ≤ d) && decide (d ≤ s_C y m)
def s_v (y m d : Int) : Int := d - 1 + s_b (y - 1970).toNat + s_h y (m - 1).toNat
def q_Y (y m d : Int) : Option Int := if r_0 y m d = true then (if 400000 < s_v y m d then none else some (s_v y m d)) else none
def m_E (l : a_3) : Int := l.foldl (fun v c => 10 * v + ((c.toNat : Int) - 48)) 0
def l_Y : a_3 := [48, 48, 48, 48, 45, 48, 48, 45, 48, 48, 84, 48, 48, 58, 48, 48]
def s_1 : a_3 → a_3 → Bool
 | [], [] => true
 | f :: fs, c :: cs => (if f.toNat = 48 then j_O c else c.toNat == f.toNat) && s_1 fs cs
 | _, _ => false
def r_g (l : a_3) : Except Int Int :=
 if s_1 l_Y l = false then .error 3
 else match q_Y (m_E (l.take 4)) (m_E ((l.take 7).drop 5)) (m_E ((l.take 10).drop 8)) with
  | none => .error 1
  | some n =>
   if 23 < m_E ((l.take 13).drop 11) ∨ 59 < m_E ((l.take 16).drop 14) ∨ 575999999 < n * 1440 + m_E ((l.take 13).drop 11) * 60 + m_E ((l.take 16).drop 14) then .error 1
   else .ok (n * 1440 + m_E ((l.take 13).drop 11) * 60 + m_E ((l.take 16).drop 14))
def j_G : List a_3 := [[43, 43], [60, 61], [62, 61], [33, 61], [40], [41], [44], [59], [58], [124], [61], [43], [45], [42], [47], [37], [60], [62]]
def t_1 (l : a_3) : Except Int (Tok × Nat) :=
 match j_G.find? (fun x => x.isPrefixOf l) with
 | some x => .ok (⟨5, x, 0, 0⟩, x.length)
 | none => .error 3
def atS (l : a_3) : Except Int (Tok × Nat) :=
 if l.length < 17 then .error 3 else match r_g ((l.take 17).drop 1) with
  | .error e => .error e
  | .ok n => .ok (⟨4, [], n, 0⟩, 17)
def t_a (l : a_3) : Except Int (Tok × Nat) :=
 match l with
 | [] => .error 3
 | c :: _ =>
  if e_N c = true then q_C l else if j_O c = true then t_n l else if c.toNat = 39 then t_8 l else if c.toNat = 64 then atS l else t_1 l
def p_1 (c : UInt8) : Bool := (c.toNat == 32) || (c.toNat == 9) || (c.toNat == 10)
def p_4 (l : a_3) : Nat := (l.takeWhile fun c => c.toNat != 10).length
def g_Q : Nat → a_3 → Nat → Except (Nat × Int) (List Tok)
 | 0, _, i => .ok [⟨0, [], 0, i⟩]
 | f + 1, l, i =>
  match l with
  | [] => .ok [⟨0, [], 0, i⟩]
  | c :: r =>
   if p_1 c = true then g_Q f r (i + 1)
   else if c.toNat = 35 then g_Q f (l.drop (p_4 l)) (i + p_4 l)
   else match t_a l with
    | .error e => .error (i, e)
    | .ok (t, n) => match g_Q f (l.drop n) (i + n) with
     | .error e => .error e
     | .ok ts => .ok ({ t with off := i } :: ts)
def a_w : List a_3 := [[97, 110, 100], [111, 114], [110, 111, 116], [110, 117, 108, 108], [116, 114, 117, 101], [102, 97, 108, 115, 101], [98, 121], [115, 101, 108, 102]]
theorem a_j {w : World} {base e size n : Nat} {v : Value} {xs : List Value} (h : w.ownsRow base e size v n xs) : ∃ A c, v = .slice A n c := by
 rcases h.2 with ⟨rfl, rfl⟩ | ⟨g, cap, cur, rfl, _⟩
 ·exact ⟨none, 0, rfl⟩
 ·exact ⟨_, _, rfl⟩
theorem b_f (w : World) (base e size : Nat) : w.ownsRow base e size (.slice none 0 0) 0 [] := ⟨s_, .inl ⟨rfl, rfl⟩⟩
theorem a_y {B : Nat} {w w' : World} {o : Obj} (h : Below B (w.alloc o) w') (hB : w.heap.size < B) : w'.heap[w.heap.size]? = some o := by
 rw [h.block _ hB]; exact heap_alloc_new w o
theorem a_0 {w : World} {g : Nat} {cs : Array Value} {t : TypeId} (h : w.heap[g]? = some (.cells cs t)) (i : Nat) : w.cell? ⟨g, i, none⟩ = cs[i]? := by simp [World.cell?, h]
theorem a_C {w : World} {g : Nat} {cs : Array Value} {t : TypeId} (h : w.heap[g]? = some (.cells cs t)) (i : Nat) : w.frozen? ⟨g, i, none⟩ = false := by simp [World.frozen?, h]
theorem a_6 {w : World} {g : Nat} {o : Obj} (h : w.heap[g]? = some o) : g < w.heap.size := by
 rcases Nat.lt_or_ge g w.heap.size with h1 | h1
 ·exact h1
 ·rw [Array.getElem?_eq_none h1] at h; cases h
def p_y : List Int := [31, 28, 31, 30, 31, 30, 31, 31, 30, 31, 30, 31]
def a_v (w : World) (g : Nat) (l : List a_3) : Prop :=
 g < w.heap.size ∧ ∃ b off c, b < w.heap.size ∧ w.cell? ⟨g, 0, none⟩ = some (.slice (some ⟨b, off, none⟩) l.length c) ∧ ∀ j, j < l.length → w.cell? ⟨b, off + j, none⟩ = some (str (l.getD j []))
def l_u (w : World) (g : Nat) : Prop := g < w.heap.size ∧ ∀ j, j < 12 → w.cell? ⟨g, j, none⟩ = some (.int .i64 (p_y.getD j 0))
theorem a_v.below {w w' : World} {g : Nat} {l : List a_3} (h : a_v w g l) (hb : Below w.heap.size w w') : a_v w' g l := by
 obtain ⟨h0, b, off, c, h1, h2, h3⟩ := h
 refine ⟨Nat.lt_of_lt_of_le h0 hb.size, b, off, c, Nat.lt_of_lt_of_le h1 hb.size, ?_, fun j hj => ?_⟩
 ·rw [hb.cell (p := ⟨g, 0, none⟩) h0]; exact h2
 ·rw [hb.cell (p := ⟨b, off + j, none⟩) h1]; exact h3 j hj
theorem l_u.below {w w' : World} {g : Nat} (h : l_u w g) (hb : Below w.heap.size w w') : l_u w' g :=
 ⟨Nat.lt_of_lt_of_le h.1 hb.size, fun j hj => by rw [hb.cell (p := ⟨g, j, none⟩) h.1]; exact h.2 j hj⟩
theorem h_x {P : Program} {f : FuncId} {args : Array Value} {w : World} {n : Nat} {v : Value}
  (h : Calls P f args (w.drewN n) fun e w' => e = .returned v ∧ w.drewN n = w') : Calls P f args (w.drewN n) fun e w' => e = .returned v ∧ ∃ m, w' = w.drewN m :=
 h.mono fun _ _ ⟨he, hw⟩ => ⟨he, n, hw.symm⟩
theorem a_4 {B : Nat} {a w : World} (h : Below B a w) (n : Nat) : Below B a (w.drewN n) := ⟨h.os, h.tape, h.output, h.size, h.block⟩
def j_I (l : a_3) (i : Nat) (acc : List Tok) : Prop :=
 g_Q l.length l 0 = (match g_Q (l.length - i) (l.drop i) i with | .error e => .error e | .ok ts => .ok (acc ++ ts)) ∧ i ≤ l.length ∧ acc.length ≤ i
theorem n_C (s : ByteArray) (a : Nat) : bs (s.extract a s.size) = (bs s).drop a := by
 rw [h_k, List.take_of_length_le (by rw [b_U]; exact l_ _)]
end Go.Proofs.YtnpjibaolicbmaaGreatDoor
