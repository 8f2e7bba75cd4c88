/- Contracts: write (expr), of constants, columns, not. -/
import Derived.Test.YtlfedcbihbigoaaGreatDoorFmtBG
set_option linter.unusedVariables false
set_option linter.unusedSimpArgs false
namespace Go.Proofs.YtlfedcbihbigoaaGreatDoor
open Go.RowKit Go.WideMaps Go.Maps
theorem wf_int {o : Int} (h0 : 0 ≤ o) (h1 : o ≤ 100) : (Lit.int .i64 o).wf = true := by
  have e1 : IntKind.i64.min = -9223372036854775808 := by decide
  have e2 : IntKind.i64.max = 9223372036854775807 := by decide
  show (decide (IntKind.i64.min ≤ o) && decide (o ≤ IntKind.i64.max)) = true
  rw [e1, e2]
  simp; omega
set_option maxRecDepth 100000 in
set_option maxHeartbeats 4000000 in
theorem expr_write_const (v : Vl) (A : Option Addr) (c : Nat) (w : World) (hG : GlobJ w) (hv : validV v.kind v.num v.text = true) :
    Calls Tryz.prog 36 #[(⟨0, v, [], 0⟩ : Nd).agg, .slice A 0 c] w fun e w' => e = .returned (litP v).agg ∧ Below w.heap.size w w' := by
  have HG := hide hG
  have HL := hide (fun W (hb : Below w.heap.size w W) => expr_literal_any v W (HG.out.below hb) hv)
  clear hv hG
  generalize litP v = r at *
  obtain ⟨rx, rl, rn⟩ := r
  obtain ⟨vk, vn, vx⟩ := v
  have HLk := hide (fun (X : World) (Bc nc : Nat) (h : X.ownsMap Tryz.prog 3 binR Bc nc binD) => (show (Instr.lookup 106 (.map (some Bc)) (.int .i64 0) true).run Tryz.prog X = .ok (.tuple #[.agg #[str [], .int .i64 0, .int .i64 0, .int .i64 0], .bool false]) X from bin_look h 0 (by decide)))
  go_enter Tryz.func36, Tryz.ntmps36
  go_wp2
  go_upto_region 1 with fail
  go_cut [5, 6] from 13 to 122 (fun s5 s6 wx => ∃ cB : Nat, s5 = .pointer (some ⟨cB, 0, none⟩) ∧ s6 = .bool false ∧ Hid (Below ((w.alloc (.cells #[.int .i64 0, .int .i64 vk, .int .i64 vn, str vx, str [], .int .i64 0] 53)).alloc (.cells #[.string ⟨#[]⟩, .int .i64 0, .bool false] 75)).heap.size ((w.alloc (.cells #[.int .i64 0, .int .i64 vk, .int .i64 vn, str vx, str [], .int .i64 0] 53)).alloc (.cells #[.string ⟨#[]⟩, .int .i64 0, .bool false] 75)) wx) ∧ w.heap.size + 1 < cB ∧ cB < wx.heap.size ∧ wx.cell? ⟨cB, 0, none⟩ = some (str []) ∧ wx.cell? ⟨cB, 1, none⟩ = some (.int .i64 0) ∧ wx.cell? ⟨cB, 2, none⟩ = some (.int .i64 0) ∧ wx.cell? ⟨cB, 3, none⟩ = some (.int .i64 0))
  case first =>
    first | (go_region_with (go_at_call 65; refine (binary_any _).mono ?_; rintro e5 w5 ⟨⟨Bc, nc, rfl, hown⟩, hb5⟩; have HBW := hide (show Below ((w.alloc (.cells #[.int .i64 0, .int .i64 vk, .int .i64 vn, str vx, str [], .int .i64 0] 53)).alloc (.cells #[.string ⟨#[]⟩, .int .i64 0, .bool false] 75)).heap.size ((w.alloc (.cells #[.int .i64 0, .int .i64 vk, .int .i64 vn, str vx, str [], .int .i64 0] 53)).alloc (.cells #[.string ⟨#[]⟩, .int .i64 0, .bool false] 75)) w5 from bel2 hb5 (by (repeat (first | exact Below.refl _ _ | assumption | refine Below.drew ?_ | refine below_drewN ?_ _ | refine Below.alloc ?_ (by first | omega | simp <;> omega) _ | refine Below.setCell ?_ (by first | omega | simp <;> omega) _)))); have hl0 := HLk.out w5 Bc nc hown; have hl2 := fun (o : Obj) => HLk.out (w5.alloc o) Bc nc (hown.alloc o); have m0 : w5.cell? ⟨w.heap.size, 0, none⟩ = some (.int .i64 0) := (hb5.cell (p := ⟨w.heap.size, 0, none⟩) (by first | (simp; done) | (simp; omega))).trans (by go_simp); have hz5 : w.heap.size + 1 < w5.heap.size := (by have := hb5.size; simp at this; omega); have hz5a : w.heap.size < w5.heap.size := (by omega); (first | (have k0 : w5.cell? ⟨w.heap.size + 1 + 1, 0, none⟩ = some (.string ⟨#[]⟩) := (hb5.cell (p := ⟨w.heap.size + 1 + 1, 0, none⟩) (by first | (simp; done) | (simp; omega))).trans (by go_simp); have k1 : w5.cell? ⟨w.heap.size + 1 + 1, 1, none⟩ = some (.int .i64 0) := (hb5.cell (p := ⟨w.heap.size + 1 + 1, 1, none⟩) (by first | (simp; done) | (simp; omega))).trans (by go_simp); have k2 : w5.cell? ⟨w.heap.size + 1 + 1, 2, none⟩ = some (.int .i64 0) := (hb5.cell (p := ⟨w.heap.size + 1 + 1, 2, none⟩) (by first | (simp; done) | (simp; omega))).trans (by go_simp); have k3 : w5.cell? ⟨w.heap.size + 1 + 1, 3, none⟩ = some (.int .i64 0) := (hb5.cell (p := ⟨w.heap.size + 1 + 1, 3, none⟩) (by first | (simp; done) | (simp; omega))).trans (by go_simp); have kf : ∀ i, w5.frozen? ⟨w.heap.size + 1 + 1, i, none⟩ = false := (fun i => (World.frozen?_of_block (hb5.block (w.heap.size + 1 + 1) (by first | (simp; done) | (simp; omega)))).trans (by go_simp)); have hz52 : w.heap.size + 1 + 1 < w5.heap.size := (by have := hb5.size; simp at this; omega)) | skip); clear hb5)) | fail
    all_goals
      go_wp2_with fail
      go_meet
      refine ⟨_, rfl, rfl, hide (by have := HBW.out; (repeat (first | exact Below.refl _ _ | assumption | refine Below.drew ?_ | refine below_drewN ?_ _ | refine Below.alloc ?_ (by first | omega | simp <;> omega) _ | refine Below.setCell ?_ (by first | omega | simp <;> omega) _))), ?_, ?_, ?_, ?_, ?_, ?_⟩
      all_goals first | (simp; done) | (simp; omega) | go_simp
  case rest =>
    obtain ⟨cB, rfl, rfl, HBc, hcB1, hcB2, q0, q1, q2, q3⟩ := hcut
    have hR := res_block HBc.out
    have hN : wc.heap[w.heap.size]? = some (.cells #[.int .i64 0, .int .i64 vk, .int .i64 vn, str vx, str [], .int .i64 0] 53) := (HBc.out.block _ (by simp; omega)).trans (two_under w _ _).1
    obtain ⟨n0, n1, n2, n3, n4, n5⟩ := cells6 hN
    obtain ⟨r0, r1, r2⟩ := cells3 hR
    have rf := free6 hR
    have hz := lt_of_heap hR
    obtain ⟨z0, z1, z2⟩ := set3 hR
    have hbw : Below w.heap.size w wc := bel2 HBc.out (by (repeat (first | exact Below.refl _ _ | assumption | refine Below.drew ?_ | refine below_drewN ?_ _ | refine Below.alloc ?_ (by first | omega | simp <;> omega) _ | refine Below.setCell ?_ (by first | omega | simp <;> omega) _)))
    have HR := hide hR
    clear HLk HBc hR hN
    go_wp2_with (go_at_call 67; refine (HL.out _ (by (repeat (first | exact Below.refl _ _ | assumption | refine Below.drew ?_ | refine below_drewN ?_ _ | refine Below.alloc ?_ (by first | omega | simp <;> omega) _ | refine Below.setCell ?_ (by first | omega | simp <;> omega) _)))).mono ?_; rintro e w3 ⟨rfl, hb3⟩; have hb4 : Below wc.heap.size wc w3 := bel2 hb3 (by (repeat (first | exact Below.refl _ _ | assumption | refine Below.drew ?_ | refine below_drewN ?_ _ | refine Below.alloc ?_ (by first | omega | simp <;> omega) _ | refine Below.setCell ?_ (by first | omega | simp <;> omega) _))); have hbw3 : Below w.heap.size w w3 := bel2 hb4 hbw; have hR3 := (hb4.block _ hz).trans HR.out; clear r0 r1 r2 rf z0 z1 z2; obtain ⟨r0, r1, r2⟩ := cells3 hR3; have rf := free6 hR3; have hz3 := lt_of_heap hR3; obtain ⟨z0, z1, z2⟩ := set3 hR3)
    refine bodyPost_ex rfl ?_
    apply Exists.intro
    apply And.intro
    · simp [results, Tryz.results36, go_sem, z0, z1, z2]; rfl
    · exact ⟨rfl, by (repeat (first | exact Below.refl _ _ | assumption | refine Below.drew ?_ | refine below_drewN ?_ _ | refine Below.alloc ?_ (by first | omega | simp <;> omega) _ | refine Below.setCell ?_ (by first | omega | simp <;> omega) _))⟩

set_option maxRecDepth 100000 in
set_option maxHeartbeats 4000000 in
theorem expr_write_col (x : Bytes) (A : Option Addr) (c : Nat) (w : World) :
    Calls Tryz.prog 36 #[(⟨1, vl0, x, 0⟩ : Nd).agg, .slice A 0 c] w fun e w' => e = .returned (⟨x, 8, false⟩ : Pc).agg ∧ Below w.heap.size w w' := by
  have HLk := hide (fun (X : World) (Bc nc : Nat) (h : X.ownsMap Tryz.prog 3 binR Bc nc binD) => (show (Instr.lookup 106 (.map (some Bc)) (.int .i64 1) true).run Tryz.prog X = .ok (.tuple #[.agg #[str [], .int .i64 0, .int .i64 0, .int .i64 0], .bool false]) X from bin_look h 1 (by decide)))
  go_enter Tryz.func36, Tryz.ntmps36
  go_wp2
  go_upto_region 1 with fail
  go_cut [5, 6] from 13 to 122 (fun s5 s6 wx => ∃ cB : Nat, s5 = .pointer (some ⟨cB, 0, none⟩) ∧ s6 = .bool false ∧ Hid (Below ((w.alloc (.cells #[.int .i64 1, .int .i64 vl0.kind, .int .i64 vl0.num, str vl0.text, str x, .int .i64 0] 53)).alloc (.cells #[.string ⟨#[]⟩, .int .i64 0, .bool false] 75)).heap.size ((w.alloc (.cells #[.int .i64 1, .int .i64 vl0.kind, .int .i64 vl0.num, str vl0.text, str x, .int .i64 0] 53)).alloc (.cells #[.string ⟨#[]⟩, .int .i64 0, .bool false] 75)) wx) ∧ w.heap.size + 1 < cB ∧ cB < wx.heap.size ∧ wx.cell? ⟨cB, 0, none⟩ = some (str []) ∧ wx.cell? ⟨cB, 1, none⟩ = some (.int .i64 0) ∧ wx.cell? ⟨cB, 2, none⟩ = some (.int .i64 0) ∧ wx.cell? ⟨cB, 3, none⟩ = some (.int .i64 0))
  case first =>
    first | (go_region_with (go_at_call 65; refine (binary_any _).mono ?_; rintro e5 w5 ⟨⟨Bc, nc, rfl, hown⟩, hb5⟩; have HBW := hide (show Below ((w.alloc (.cells #[.int .i64 1, .int .i64 vl0.kind, .int .i64 vl0.num, str vl0.text, str x, .int .i64 0] 53)).alloc (.cells #[.string ⟨#[]⟩, .int .i64 0, .bool false] 75)).heap.size ((w.alloc (.cells #[.int .i64 1, .int .i64 vl0.kind, .int .i64 vl0.num, str vl0.text, str x, .int .i64 0] 53)).alloc (.cells #[.string ⟨#[]⟩, .int .i64 0, .bool false] 75)) w5 from bel2 hb5 (by (repeat (first | exact Below.refl _ _ | assumption | refine Below.drew ?_ | refine below_drewN ?_ _ | refine Below.alloc ?_ (by first | omega | simp <;> omega) _ | refine Below.setCell ?_ (by first | omega | simp <;> omega) _)))); have hl0 := HLk.out w5 Bc nc hown; have hl2 := fun (o : Obj) => HLk.out (w5.alloc o) Bc nc (hown.alloc o); have m0 : w5.cell? ⟨w.heap.size, 0, none⟩ = some (.int .i64 1) := (hb5.cell (p := ⟨w.heap.size, 0, none⟩) (by first | (simp; done) | (simp; omega))).trans (by go_simp); have hz5 : w.heap.size + 1 < w5.heap.size := (by have := hb5.size; simp at this; omega); have hz5a : w.heap.size < w5.heap.size := (by omega); (first | (have k0 : w5.cell? ⟨w.heap.size + 1 + 1, 0, none⟩ = some (.string ⟨#[]⟩) := (hb5.cell (p := ⟨w.heap.size + 1 + 1, 0, none⟩) (by first | (simp; done) | (simp; omega))).trans (by go_simp); have k1 : w5.cell? ⟨w.heap.size + 1 + 1, 1, none⟩ = some (.int .i64 0) := (hb5.cell (p := ⟨w.heap.size + 1 + 1, 1, none⟩) (by first | (simp; done) | (simp; omega))).trans (by go_simp); have k2 : w5.cell? ⟨w.heap.size + 1 + 1, 2, none⟩ = some (.int .i64 0) := (hb5.cell (p := ⟨w.heap.size + 1 + 1, 2, none⟩) (by first | (simp; done) | (simp; omega))).trans (by go_simp); have k3 : w5.cell? ⟨w.heap.size + 1 + 1, 3, none⟩ = some (.int .i64 0) := (hb5.cell (p := ⟨w.heap.size + 1 + 1, 3, none⟩) (by first | (simp; done) | (simp; omega))).trans (by go_simp); have kf : ∀ i, w5.frozen? ⟨w.heap.size + 1 + 1, i, none⟩ = false := (fun i => (World.frozen?_of_block (hb5.block (w.heap.size + 1 + 1) (by first | (simp; done) | (simp; omega)))).trans (by go_simp)); have hz52 : w.heap.size + 1 + 1 < w5.heap.size := (by have := hb5.size; simp at this; omega)) | skip); clear hb5)) | fail
    all_goals
      go_wp2_with fail
      go_meet
      refine ⟨_, rfl, rfl, hide (by have := HBW.out; (repeat (first | exact Below.refl _ _ | assumption | refine Below.drew ?_ | refine below_drewN ?_ _ | refine Below.alloc ?_ (by first | omega | simp <;> omega) _ | refine Below.setCell ?_ (by first | omega | simp <;> omega) _))), ?_, ?_, ?_, ?_, ?_, ?_⟩
      all_goals first | (simp; done) | (simp; omega) | go_simp
  case rest =>
    obtain ⟨cB, rfl, rfl, HBc, hcB1, hcB2, q0, q1, q2, q3⟩ := hcut
    have hR := res_block HBc.out
    have hN : wc.heap[w.heap.size]? = some (.cells #[.int .i64 1, .int .i64 vl0.kind, .int .i64 vl0.num, str vl0.text, str x, .int .i64 0] 53) := (HBc.out.block _ (by simp; omega)).trans (two_under w _ _).1
    obtain ⟨n0, n1, n2, n3, n4, n5⟩ := cells6 hN
    obtain ⟨r0, r1, r2⟩ := cells3 hR
    have rf := free6 hR
    have hz := lt_of_heap hR
    obtain ⟨z0, z1, z2⟩ := set3 hR
    have hbw : Below w.heap.size w wc := bel2 HBc.out (by (repeat (first | exact Below.refl _ _ | assumption | refine Below.drew ?_ | refine below_drewN ?_ _ | refine Below.alloc ?_ (by first | omega | simp <;> omega) _ | refine Below.setCell ?_ (by first | omega | simp <;> omega) _)))
    have HR := hide hR
    clear HLk HBc hR hN
    go_wp2
    refine bodyPost_ex rfl ?_
    apply Exists.intro
    apply And.intro
    · simp [results, Tryz.results36, go_sem, z0, z1, z2]; rfl
    · exact ⟨rfl, by (repeat (first | exact Below.refl _ _ | assumption | refine Below.drew ?_ | refine below_drewN ?_ _ | refine Below.alloc ?_ (by first | omega | simp <;> omega) _ | refine Below.setCell ?_ (by first | omega | simp <;> omega) _))⟩

set_option maxRecDepth 100000 in
set_option maxHeartbeats 4000000 in
theorem expr_write_not (p : Pc) (g off c : Nat) (w : World) (hA : PcAt w g off p) (hg : g < w.heap.size) (hp : p.text.length ≤ 900000) :
    Calls Tryz.prog 36 #[(⟨2, vl0, [], 0⟩ : Nd).agg, .slice (some ⟨g, off, none⟩) 1 c] w fun e w' => e = .returned (⟨[110, 111, 116, 32] ++ p.at' 2, 2, false⟩ : Pc).agg ∧ Below w.heap.size w w' := by
  have HP := hide (fun W => expr_at_any p 2 W (by omega))
  have lp := at_len p 2
  have HA := hide (fun W (hb : Below w.heap.size w W) => hA.below hg hb)
  clear hA
  obtain ⟨px, pl, pn⟩ := p
  simp only at hp lp
  generalize (Pc.mk px pl pn).at' 2 = xa at *
  have HLk := hide (fun (X : World) (Bc nc : Nat) (h : X.ownsMap Tryz.prog 3 binR Bc nc binD) => (show (Instr.lookup 106 (.map (some Bc)) (.int .i64 2) true).run Tryz.prog X = .ok (.tuple #[.agg #[str [], .int .i64 0, .int .i64 0, .int .i64 0], .bool false]) X from bin_look h 2 (by decide)))
  go_enter Tryz.func36, Tryz.ntmps36
  go_wp2
  go_upto_region 1 with fail
  go_cut [5, 6] from 13 to 122 (fun s5 s6 wx => ∃ cB : Nat, s5 = .pointer (some ⟨cB, 0, none⟩) ∧ s6 = .bool false ∧ Hid (Below ((w.alloc (.cells #[.int .i64 2, .int .i64 vl0.kind, .int .i64 vl0.num, str vl0.text, str [], .int .i64 0] 53)).alloc (.cells #[.string ⟨#[]⟩, .int .i64 0, .bool false] 75)).heap.size ((w.alloc (.cells #[.int .i64 2, .int .i64 vl0.kind, .int .i64 vl0.num, str vl0.text, str [], .int .i64 0] 53)).alloc (.cells #[.string ⟨#[]⟩, .int .i64 0, .bool false] 75)) wx) ∧ w.heap.size + 1 < cB ∧ cB < wx.heap.size ∧ wx.cell? ⟨cB, 0, none⟩ = some (str []) ∧ wx.cell? ⟨cB, 1, none⟩ = some (.int .i64 0) ∧ wx.cell? ⟨cB, 2, none⟩ = some (.int .i64 0) ∧ wx.cell? ⟨cB, 3, none⟩ = some (.int .i64 0))
  case first =>
    first | (go_region_with (go_at_call 65; refine (binary_any _).mono ?_; rintro e5 w5 ⟨⟨Bc, nc, rfl, hown⟩, hb5⟩; have HBW := hide (show Below ((w.alloc (.cells #[.int .i64 2, .int .i64 vl0.kind, .int .i64 vl0.num, str vl0.text, str [], .int .i64 0] 53)).alloc (.cells #[.string ⟨#[]⟩, .int .i64 0, .bool false] 75)).heap.size ((w.alloc (.cells #[.int .i64 2, .int .i64 vl0.kind, .int .i64 vl0.num, str vl0.text, str [], .int .i64 0] 53)).alloc (.cells #[.string ⟨#[]⟩, .int .i64 0, .bool false] 75)) w5 from bel2 hb5 (by (repeat (first | exact Below.refl _ _ | assumption | refine Below.drew ?_ | refine below_drewN ?_ _ | refine Below.alloc ?_ (by first | omega | simp <;> omega) _ | refine Below.setCell ?_ (by first | omega | simp <;> omega) _)))); have hl0 := HLk.out w5 Bc nc hown; have hl2 := fun (o : Obj) => HLk.out (w5.alloc o) Bc nc (hown.alloc o); have m0 : w5.cell? ⟨w.heap.size, 0, none⟩ = some (.int .i64 2) := (hb5.cell (p := ⟨w.heap.size, 0, none⟩) (by first | (simp; done) | (simp; omega))).trans (by go_simp); have hz5 : w.heap.size + 1 < w5.heap.size := (by have := hb5.size; simp at this; omega); have hz5a : w.heap.size < w5.heap.size := (by omega); (first | (have k0 : w5.cell? ⟨w.heap.size + 1 + 1, 0, none⟩ = some (.string ⟨#[]⟩) := (hb5.cell (p := ⟨w.heap.size + 1 + 1, 0, none⟩) (by first | (simp; done) | (simp; omega))).trans (by go_simp); have k1 : w5.cell? ⟨w.heap.size + 1 + 1, 1, none⟩ = some (.int .i64 0) := (hb5.cell (p := ⟨w.heap.size + 1 + 1, 1, none⟩) (by first | (simp; done) | (simp; omega))).trans (by go_simp); have k2 : w5.cell? ⟨w.heap.size + 1 + 1, 2, none⟩ = some (.int .i64 0) := (hb5.cell (p := ⟨w.heap.size + 1 + 1, 2, none⟩) (by first | (simp; done) | (simp; omega))).trans (by go_simp); have k3 : w5.cell? ⟨w.heap.size + 1 + 1, 3, none⟩ = some (.int .i64 0) := (hb5.cell (p := ⟨w.heap.size + 1 + 1, 3, none⟩) (by first | (simp; done) | (simp; omega))).trans (by go_simp); have kf : ∀ i, w5.frozen? ⟨w.heap.size + 1 + 1, i, none⟩ = false := (fun i => (World.frozen?_of_block (hb5.block (w.heap.size + 1 + 1) (by first | (simp; done) | (simp; omega)))).trans (by go_simp)); have hz52 : w.heap.size + 1 + 1 < w5.heap.size := (by have := hb5.size; simp at this; omega)) | skip); clear hb5)) | fail
    all_goals
      go_wp2_with fail
      go_meet
      refine ⟨_, rfl, rfl, hide (by have := HBW.out; (repeat (first | exact Below.refl _ _ | assumption | refine Below.drew ?_ | refine below_drewN ?_ _ | refine Below.alloc ?_ (by first | omega | simp <;> omega) _ | refine Below.setCell ?_ (by first | omega | simp <;> omega) _))), ?_, ?_, ?_, ?_, ?_, ?_⟩
      all_goals first | (simp; done) | (simp; omega) | go_simp
  case rest =>
    obtain ⟨cB, rfl, rfl, HBc, hcB1, hcB2, q0, q1, q2, q3⟩ := hcut
    have hR := res_block HBc.out
    have hN : wc.heap[w.heap.size]? = some (.cells #[.int .i64 2, .int .i64 vl0.kind, .int .i64 vl0.num, str vl0.text, str [], .int .i64 0] 53) := (HBc.out.block _ (by simp; omega)).trans (two_under w _ _).1
    obtain ⟨n0, n1, n2, n3, n4, n5⟩ := cells6 hN
    obtain ⟨r0, r1, r2⟩ := cells3 hR
    have rf := free6 hR
    have hz := lt_of_heap hR
    obtain ⟨z0, z1, z2⟩ := set3 hR
    have hbw : Below w.heap.size w wc := bel2 HBc.out (by (repeat (first | exact Below.refl _ _ | assumption | refine Below.drew ?_ | refine below_drewN ?_ _ | refine Below.alloc ?_ (by first | omega | simp <;> omega) _ | refine Below.setCell ?_ (by first | omega | simp <;> omega) _)))
    have HR := hide hR
    clear HLk HBc hR hN
    obtain ⟨p0, p1, p2⟩ := HA.out wc hbw
    simp only at p0 p1 p2
    go_wp2_with (go_at_call 66; refine (HP.out _).mono ?_; rintro e w3 ⟨rfl, hb3⟩; have hb4 : Below wc.heap.size wc w3 := bel2 hb3 (by (repeat (first | exact Below.refl _ _ | assumption | refine Below.drew ?_ | refine below_drewN ?_ _ | refine Below.alloc ?_ (by first | omega | simp <;> omega) _ | refine Below.setCell ?_ (by first | omega | simp <;> omega) _))); have hbw3 : Below w.heap.size w w3 := bel2 hb4 hbw; have hR3 := (hb4.block _ hz).trans HR.out; clear r0 r1 r2 rf z0 z1 z2; obtain ⟨r0, r1, r2⟩ := cells3 hR3; have rf := free6 hR3; have hz3 := lt_of_heap hR3; obtain ⟨z0, z1, z2⟩ := set3 hR3)
    refine bodyPost_ex rfl ?_
    apply Exists.intro
    apply And.intro
    · simp [results, Tryz.results36, go_sem, z0, z1, z2]; rfl
    · exact ⟨by simp [ba_append], by (repeat (first | exact Below.refl _ _ | assumption | refine Below.drew ?_ | refine below_drewN ?_ _ | refine Below.alloc ?_ (by first | omega | simp <;> omega) _ | refine Below.setCell ?_ (by first | omega | simp <;> omega) _))⟩

end Go.Proofs.YtlfedcbihbigoaaGreatDoor
