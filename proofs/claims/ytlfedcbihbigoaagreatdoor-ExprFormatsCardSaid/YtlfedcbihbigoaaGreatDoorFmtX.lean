/- Contracts: write (expr), of a negation, of binary operators. -/
import Derived.Test.YtlfedcbihbigoaaGreatDoorFmtBG
set_option linter.unusedVariables false
set_option linter.unusedSimpArgs false
namespace Go.Proofs.YtlfedcbihbigoaaGreatDoor
open Go.RowKit Go.WideMaps Go.Maps
set_option maxRecDepth 100000 in
set_option maxHeartbeats 4000000 in
theorem expr_write_neg (p : Pc) (g off c : Nat) (w : World) (hA : PcAt w g off p) (hg : g < w.heap.size) (hp : p.text.length ≤ 900000) (hn : p.num = false) :
    Calls Tryz.prog 36 #[(⟨3, vl0, [], 0⟩ : Nd).agg, .slice (some ⟨g, off, none⟩) 1 c] w fun e w' => e = .returned (⟨[45] ++ p.at' 7, 7, false⟩ : Pc).agg ∧ Below w.heap.size w w' := by
  have HP := hide (fun W => expr_at_any p 7 W (by omega))
  have lp := at_len p 7
  have HA := hide (fun W (hb : Below w.heap.size w W) => hA.below hg hb)
  clear hA
  obtain ⟨px, pl, pn⟩ := p
  simp only at hp lp hn
  generalize (Pc.mk px pl pn).at' 7 = xa at *
  subst hn
  have HLk := hide (fun (X : World) (Bc nc : Nat) (h : X.ownsMap Tryz.prog 3 binR Bc nc binD) => (show (Instr.lookup 106 (.map (some Bc)) (.int .i64 3) true).run Tryz.prog X = .ok (.tuple #[.agg #[str [], .int .i64 0, .int .i64 0, .int .i64 0], .bool false]) X from bin_look h 3 (by decide)))
  go_enter Tryz.func36, Tryz.ntmps36
  go_wp2
  go_upto_region 1 with fail
  go_cut [5, 6] from 13 to 122 (fun s5 s6 wx => ∃ cB : Nat, s5 = .pointer (some ⟨cB, 0, none⟩) ∧ s6 = .bool false ∧ Hid (Below ((w.alloc (.cells #[.int .i64 3, .int .i64 vl0.kind, .int .i64 vl0.num, str vl0.text, str [], .int .i64 0] 53)).alloc (.cells #[.string ⟨#[]⟩, .int .i64 0, .bool false] 75)).heap.size ((w.alloc (.cells #[.int .i64 3, .int .i64 vl0.kind, .int .i64 vl0.num, str vl0.text, str [], .int .i64 0] 53)).alloc (.cells #[.string ⟨#[]⟩, .int .i64 0, .bool false] 75)) wx) ∧ w.heap.size + 1 < cB ∧ cB < wx.heap.size ∧ wx.cell? ⟨cB, 0, none⟩ = some (str []) ∧ wx.cell? ⟨cB, 1, none⟩ = some (.int .i64 0) ∧ wx.cell? ⟨cB, 2, none⟩ = some (.int .i64 0) ∧ wx.cell? ⟨cB, 3, none⟩ = some (.int .i64 0))
  case first =>
    first | (go_region_with (go_at_call 65; refine (binary_any _).mono ?_; rintro e5 w5 ⟨⟨Bc, nc, rfl, hown⟩, hb5⟩; have HBW := hide (show Below ((w.alloc (.cells #[.int .i64 3, .int .i64 vl0.kind, .int .i64 vl0.num, str vl0.text, str [], .int .i64 0] 53)).alloc (.cells #[.string ⟨#[]⟩, .int .i64 0, .bool false] 75)).heap.size ((w.alloc (.cells #[.int .i64 3, .int .i64 vl0.kind, .int .i64 vl0.num, str vl0.text, str [], .int .i64 0] 53)).alloc (.cells #[.string ⟨#[]⟩, .int .i64 0, .bool false] 75)) w5 from bel2 hb5 (by (repeat (first | exact Below.refl _ _ | assumption | refine Below.drew ?_ | refine below_drewN ?_ _ | refine Below.alloc ?_ (by first | omega | (simp; done) | (simp; omega)) _ | refine Below.setCell ?_ (by first | omega | (simp; done) | (simp; omega)) _)))); have hl0 := HLk.out w5 Bc nc hown; have hl2 := fun (o : Obj) => HLk.out (w5.alloc o) Bc nc (hown.alloc o); have m0 : w5.cell? ⟨w.heap.size, 0, none⟩ = some (.int .i64 3) := (hb5.cell (p := ⟨w.heap.size, 0, none⟩) (by first | (simp; done) | (simp; omega))).trans (by go_simp); have hz5 : w.heap.size + 1 < w5.heap.size := (by have := hb5.size; simp at this; omega); have hz5a : w.heap.size < w5.heap.size := (by omega); (first | (have k0 : w5.cell? ⟨w.heap.size + 1 + 1, 0, none⟩ = some (.string ⟨#[]⟩) := (hb5.cell (p := ⟨w.heap.size + 1 + 1, 0, none⟩) (by first | (simp; done) | (simp; omega))).trans (by go_simp); have k1 : w5.cell? ⟨w.heap.size + 1 + 1, 1, none⟩ = some (.int .i64 0) := (hb5.cell (p := ⟨w.heap.size + 1 + 1, 1, none⟩) (by first | (simp; done) | (simp; omega))).trans (by go_simp); have k2 : w5.cell? ⟨w.heap.size + 1 + 1, 2, none⟩ = some (.int .i64 0) := (hb5.cell (p := ⟨w.heap.size + 1 + 1, 2, none⟩) (by first | (simp; done) | (simp; omega))).trans (by go_simp); have k3 : w5.cell? ⟨w.heap.size + 1 + 1, 3, none⟩ = some (.int .i64 0) := (hb5.cell (p := ⟨w.heap.size + 1 + 1, 3, none⟩) (by first | (simp; done) | (simp; omega))).trans (by go_simp); have kf : ∀ i, w5.frozen? ⟨w.heap.size + 1 + 1, i, none⟩ = false := (fun i => (World.frozen?_of_block (hb5.block (w.heap.size + 1 + 1) (by first | (simp; done) | (simp; omega)))).trans (by go_simp)); have hz52 : w.heap.size + 1 + 1 < w5.heap.size := (by have := hb5.size; simp at this; omega)) | skip); clear hb5)) | fail
    all_goals
      go_wp2_with fail
      go_meet
      refine ⟨_, rfl, rfl, hide (by have := HBW.out; (repeat (first | exact Below.refl _ _ | assumption | refine Below.drew ?_ | refine below_drewN ?_ _ | refine Below.alloc ?_ (by first | omega | (simp; done) | (simp; omega)) _ | refine Below.setCell ?_ (by first | omega | (simp; done) | (simp; omega)) _))), ?_, ?_, ?_, ?_, ?_, ?_⟩
      all_goals first | (simp; done) | (simp; omega) | go_simp
  case rest =>
    obtain ⟨cB, rfl, rfl, HBc, hcB1, hcB2, q0, q1, q2, q3⟩ := hcut
    have hR := res_block HBc.out
    have hN : wc.heap[w.heap.size]? = some (.cells #[.int .i64 3, .int .i64 vl0.kind, .int .i64 vl0.num, str vl0.text, str [], .int .i64 0] 53) := (HBc.out.block _ (by simp; omega)).trans (two_under w _ _).1
    obtain ⟨n0, n1, n2, n3, n4, n5⟩ := cells6 hN
    obtain ⟨r0, r1, r2⟩ := cells3 hR
    have rf := free6 hR
    have hz := lt_of_heap hR
    obtain ⟨z0, z1, z2⟩ := set3 hR
    have hbw : Below w.heap.size w wc := bel2 HBc.out (by (repeat (first | exact Below.refl _ _ | assumption | refine Below.drew ?_ | refine below_drewN ?_ _ | refine Below.alloc ?_ (by first | omega | (simp; done) | (simp; omega)) _ | refine Below.setCell ?_ (by first | omega | (simp; done) | (simp; omega)) _)))
    have HR := hide hR
    clear HLk HBc hR hN
    obtain ⟨p0, p1, p2⟩ := HA.out wc hbw
    simp only at p0 p1 p2
    go_wp2_with (go_at_call 66; refine (HP.out _).mono ?_; rintro e w3 ⟨rfl, hb3⟩; have hb4 : Below wc.heap.size wc w3 := bel2 hb3 (by (repeat (first | exact Below.refl _ _ | assumption | refine Below.drew ?_ | refine below_drewN ?_ _ | refine Below.alloc ?_ (by first | omega | (simp; done) | (simp; omega)) _ | refine Below.setCell ?_ (by first | omega | (simp; done) | (simp; omega)) _))); have hbw3 : Below w.heap.size w w3 := bel2 hb4 hbw; have hR3 := (hb4.block _ hz).trans HR.out; clear r0 r1 r2 rf z0 z1 z2; obtain ⟨r0, r1, r2⟩ := cells3 hR3; have rf := free6 hR3; have hz3 := lt_of_heap hR3; obtain ⟨z0, z1, z2⟩ := set3 hR3)
    refine bodyPost_ex rfl ?_
    apply Exists.intro
    apply And.intro
    · simp [results, Tryz.results36, go_sem, z0, z1, z2]; rfl
    · exact ⟨by simp [ba_append], by (repeat (first | exact Below.refl _ _ | assumption | refine Below.drew ?_ | refine below_drewN ?_ _ | refine Below.alloc ?_ (by first | omega | (simp; done) | (simp; omega)) _ | refine Below.setCell ?_ (by first | omega | (simp; done) | (simp; omega)) _))⟩

set_option maxRecDepth 100000 in
set_option maxHeartbeats 4000000 in
theorem expr_write_num (p : Pc) (g off c : Nat) (w : World) (hA : PcAt w g off p) (hg : g < w.heap.size) (hp : p.text.length ≤ 900000) (hn : p.num = true) :
    Calls Tryz.prog 36 #[(⟨3, vl0, [], 0⟩ : Nd).agg, .slice (some ⟨g, off, none⟩) 1 c] w fun e w' => e = .returned (⟨[45, 40] ++ p.text ++ [41], 7, false⟩ : Pc).agg ∧ Below w.heap.size w w' := by
  have HA := hide (fun W (hb : Below w.heap.size w W) => hA.below hg hb)
  clear hA
  obtain ⟨px, pl, pn⟩ := p
  simp only at hp hn
  subst hn
  have HLk := hide (fun (X : World) (Bc nc : Nat) (h : X.ownsMap Tryz.prog 3 binR Bc nc binD) => (show (Instr.lookup 106 (.map (some Bc)) (.int .i64 3) true).run Tryz.prog X = .ok (.tuple #[.agg #[str [], .int .i64 0, .int .i64 0, .int .i64 0], .bool false]) X from bin_look h 3 (by decide)))
  go_enter Tryz.func36, Tryz.ntmps36
  go_wp2
  go_upto_region 1 with fail
  go_cut [5, 6] from 13 to 122 (fun s5 s6 wx => ∃ cB : Nat, s5 = .pointer (some ⟨cB, 0, none⟩) ∧ s6 = .bool false ∧ Hid (Below ((w.alloc (.cells #[.int .i64 3, .int .i64 vl0.kind, .int .i64 vl0.num, str vl0.text, str [], .int .i64 0] 53)).alloc (.cells #[.string ⟨#[]⟩, .int .i64 0, .bool false] 75)).heap.size ((w.alloc (.cells #[.int .i64 3, .int .i64 vl0.kind, .int .i64 vl0.num, str vl0.text, str [], .int .i64 0] 53)).alloc (.cells #[.string ⟨#[]⟩, .int .i64 0, .bool false] 75)) wx) ∧ w.heap.size + 1 < cB ∧ cB < wx.heap.size ∧ wx.cell? ⟨cB, 0, none⟩ = some (str []) ∧ wx.cell? ⟨cB, 1, none⟩ = some (.int .i64 0) ∧ wx.cell? ⟨cB, 2, none⟩ = some (.int .i64 0) ∧ wx.cell? ⟨cB, 3, none⟩ = some (.int .i64 0))
  case first =>
    first | (go_region_with (go_at_call 65; refine (binary_any _).mono ?_; rintro e5 w5 ⟨⟨Bc, nc, rfl, hown⟩, hb5⟩; have HBW := hide (show Below ((w.alloc (.cells #[.int .i64 3, .int .i64 vl0.kind, .int .i64 vl0.num, str vl0.text, str [], .int .i64 0] 53)).alloc (.cells #[.string ⟨#[]⟩, .int .i64 0, .bool false] 75)).heap.size ((w.alloc (.cells #[.int .i64 3, .int .i64 vl0.kind, .int .i64 vl0.num, str vl0.text, str [], .int .i64 0] 53)).alloc (.cells #[.string ⟨#[]⟩, .int .i64 0, .bool false] 75)) w5 from bel2 hb5 (by (repeat (first | exact Below.refl _ _ | assumption | refine Below.drew ?_ | refine below_drewN ?_ _ | refine Below.alloc ?_ (by first | omega | (simp; done) | (simp; omega)) _ | refine Below.setCell ?_ (by first | omega | (simp; done) | (simp; omega)) _)))); have hl0 := HLk.out w5 Bc nc hown; have hl2 := fun (o : Obj) => HLk.out (w5.alloc o) Bc nc (hown.alloc o); have m0 : w5.cell? ⟨w.heap.size, 0, none⟩ = some (.int .i64 3) := (hb5.cell (p := ⟨w.heap.size, 0, none⟩) (by first | (simp; done) | (simp; omega))).trans (by go_simp); have hz5 : w.heap.size + 1 < w5.heap.size := (by have := hb5.size; simp at this; omega); have hz5a : w.heap.size < w5.heap.size := (by omega); (first | (have k0 : w5.cell? ⟨w.heap.size + 1 + 1, 0, none⟩ = some (.string ⟨#[]⟩) := (hb5.cell (p := ⟨w.heap.size + 1 + 1, 0, none⟩) (by first | (simp; done) | (simp; omega))).trans (by go_simp); have k1 : w5.cell? ⟨w.heap.size + 1 + 1, 1, none⟩ = some (.int .i64 0) := (hb5.cell (p := ⟨w.heap.size + 1 + 1, 1, none⟩) (by first | (simp; done) | (simp; omega))).trans (by go_simp); have k2 : w5.cell? ⟨w.heap.size + 1 + 1, 2, none⟩ = some (.int .i64 0) := (hb5.cell (p := ⟨w.heap.size + 1 + 1, 2, none⟩) (by first | (simp; done) | (simp; omega))).trans (by go_simp); have k3 : w5.cell? ⟨w.heap.size + 1 + 1, 3, none⟩ = some (.int .i64 0) := (hb5.cell (p := ⟨w.heap.size + 1 + 1, 3, none⟩) (by first | (simp; done) | (simp; omega))).trans (by go_simp); have kf : ∀ i, w5.frozen? ⟨w.heap.size + 1 + 1, i, none⟩ = false := (fun i => (World.frozen?_of_block (hb5.block (w.heap.size + 1 + 1) (by first | (simp; done) | (simp; omega)))).trans (by go_simp)); have hz52 : w.heap.size + 1 + 1 < w5.heap.size := (by have := hb5.size; simp at this; omega)) | skip); clear hb5)) | fail
    all_goals
      go_wp2_with fail
      go_meet
      refine ⟨_, rfl, rfl, hide (by have := HBW.out; (repeat (first | exact Below.refl _ _ | assumption | refine Below.drew ?_ | refine below_drewN ?_ _ | refine Below.alloc ?_ (by first | omega | (simp; done) | (simp; omega)) _ | refine Below.setCell ?_ (by first | omega | (simp; done) | (simp; omega)) _))), ?_, ?_, ?_, ?_, ?_, ?_⟩
      all_goals first | (simp; done) | (simp; omega) | go_simp
  case rest =>
    obtain ⟨cB, rfl, rfl, HBc, hcB1, hcB2, q0, q1, q2, q3⟩ := hcut
    have hR := res_block HBc.out
    have hN : wc.heap[w.heap.size]? = some (.cells #[.int .i64 3, .int .i64 vl0.kind, .int .i64 vl0.num, str vl0.text, str [], .int .i64 0] 53) := (HBc.out.block _ (by simp; omega)).trans (two_under w _ _).1
    obtain ⟨n0, n1, n2, n3, n4, n5⟩ := cells6 hN
    obtain ⟨r0, r1, r2⟩ := cells3 hR
    have rf := free6 hR
    have hz := lt_of_heap hR
    obtain ⟨z0, z1, z2⟩ := set3 hR
    have hbw : Below w.heap.size w wc := bel2 HBc.out (by (repeat (first | exact Below.refl _ _ | assumption | refine Below.drew ?_ | refine below_drewN ?_ _ | refine Below.alloc ?_ (by first | omega | (simp; done) | (simp; omega)) _ | refine Below.setCell ?_ (by first | omega | (simp; done) | (simp; omega)) _)))
    have HR := hide hR
    clear HLk HBc hR hN
    obtain ⟨p0, p1, p2⟩ := HA.out wc hbw
    simp only at p0 p1 p2
    go_wp2
    refine bodyPost_ex rfl ?_
    apply Exists.intro
    apply And.intro
    · simp [results, Tryz.results36, go_sem, z0, z1, z2]; rfl
    · exact ⟨by simp [ba_append], by (repeat (first | exact Below.refl _ _ | assumption | refine Below.drew ?_ | refine below_drewN ?_ _ | refine Below.alloc ?_ (by first | omega | (simp; done) | (simp; omega)) _ | refine Below.setCell ?_ (by first | omega | (simp; done) | (simp; omega)) _))⟩

set_option maxRecDepth 100000 in
set_option maxHeartbeats 8000000 in
theorem expr_write_bin (o : Int) (p q : Pc) (g off c : Nat) (w : World) (ho : 4 ≤ o ∧ o ≤ 15) (hA : PcAt w g off p) (hB : PcAt w g (off + 3) q) (hg : g < w.heap.size) (hp : p.text.length ≤ 900000) (hq : q.text.length ≤ 900000) :
    Calls Tryz.prog 36 #[(⟨o, vl0, [], 0⟩ : Nd).agg, .slice (some ⟨g, off, none⟩) 2 c] w fun e w' => e = .returned (binP o p q).agg ∧ Below w.heap.size w w' := by
  have HLk0 := fun (X : World) (Bc nc : Nat) (h : X.ownsMap Tryz.prog 3 binR Bc nc binD) => bin_look h o (wf_int2 (by omega) (by omega))
  rw [binS_some ho] at HLk0
  obtain ⟨t, a, b, d, HB⟩ : ∃ t a b d, Hid (binG o = (t, a, b, d)) := ⟨_, _, _, _, hide rfl⟩
  have ht := binG_len ho
  have HE := hide (show binP o p q = ⟨p.at' b ++ [32] ++ t ++ [32] ++ q.at' d, a, false⟩ from by unfold binP; rw [HB.out])
  rw [HB.out] at ht HLk0
  simp only [Option.isSome_some] at ht HLk0
  have HLk := hide HLk0
  clear HLk0
  have HP := hide (fun W => expr_at_any p b W (by omega))
  have HQ := hide (fun W => expr_at_any q d W (by omega))
  have lp := at_len p b
  have lq := at_len q d
  have HA := hide (fun W (hb : Below w.heap.size w W) => And.intro (hA.below hg hb) (hB.below hg hb))
  clear hA hB
  obtain ⟨px, pl, pn⟩ := p
  obtain ⟨qx, ql, qn⟩ := q
  simp only at hp hq lp lq
  generalize (Pc.mk px pl pn).at' b = xa at *
  generalize (Pc.mk qx ql qn).at' d = xb at *
  go_enter Tryz.func36, Tryz.ntmps36
  go_wp2
  go_upto_region 1 with fail
  go_cut [5, 6] from 13 to 122 (fun s5 s6 wx => ∃ cB : Nat, s5 = .pointer (some ⟨cB, 0, none⟩) ∧ s6 = .bool true ∧ Hid (Below ((w.alloc (.cells #[.int .i64 o, .int .i64 vl0.kind, .int .i64 vl0.num, str vl0.text, str [], .int .i64 0] 53)).alloc (.cells #[.string ⟨#[]⟩, .int .i64 0, .bool false] 75)).heap.size ((w.alloc (.cells #[.int .i64 o, .int .i64 vl0.kind, .int .i64 vl0.num, str vl0.text, str [], .int .i64 0] 53)).alloc (.cells #[.string ⟨#[]⟩, .int .i64 0, .bool false] 75)) wx) ∧ w.heap.size + 1 < cB ∧ cB < wx.heap.size ∧ wx.cell? ⟨cB, 0, none⟩ = some (str t) ∧ wx.cell? ⟨cB, 1, none⟩ = some (.int .i64 a) ∧ wx.cell? ⟨cB, 2, none⟩ = some (.int .i64 b) ∧ wx.cell? ⟨cB, 3, none⟩ = some (.int .i64 d))
  case first =>
    first | (go_region_with (go_at_call 65; refine (binary_any _).mono ?_; rintro e5 w5 ⟨⟨Bc, nc, rfl, hown⟩, hb5⟩; have HBW := hide (show Below ((w.alloc (.cells #[.int .i64 o, .int .i64 vl0.kind, .int .i64 vl0.num, str vl0.text, str [], .int .i64 0] 53)).alloc (.cells #[.string ⟨#[]⟩, .int .i64 0, .bool false] 75)).heap.size ((w.alloc (.cells #[.int .i64 o, .int .i64 vl0.kind, .int .i64 vl0.num, str vl0.text, str [], .int .i64 0] 53)).alloc (.cells #[.string ⟨#[]⟩, .int .i64 0, .bool false] 75)) w5 from bel2 hb5 (by (repeat (first | exact Below.refl _ _ | assumption | refine Below.drew ?_ | refine below_drewN ?_ _ | refine Below.alloc ?_ (by first | omega | (simp; done) | (simp; omega)) _ | refine Below.setCell ?_ (by first | omega | (simp; done) | (simp; omega)) _)))); have hl0 := HLk.out w5 Bc nc hown; have hl2 := fun (o : Obj) => HLk.out (w5.alloc o) Bc nc (hown.alloc o); have m0 : w5.cell? ⟨w.heap.size, 0, none⟩ = some (.int .i64 o) := (hb5.cell (p := ⟨w.heap.size, 0, none⟩) (by first | (simp; done) | (simp; omega))).trans (by go_simp); have hz5 : w.heap.size + 1 < w5.heap.size := (by have := hb5.size; simp at this; omega); have hz5a : w.heap.size < w5.heap.size := (by omega); (first | (have k0 : w5.cell? ⟨w.heap.size + 1 + 1, 0, none⟩ = some (.string ⟨#[]⟩) := (hb5.cell (p := ⟨w.heap.size + 1 + 1, 0, none⟩) (by first | (simp; done) | (simp; omega))).trans (by go_simp); have k1 : w5.cell? ⟨w.heap.size + 1 + 1, 1, none⟩ = some (.int .i64 0) := (hb5.cell (p := ⟨w.heap.size + 1 + 1, 1, none⟩) (by first | (simp; done) | (simp; omega))).trans (by go_simp); have k2 : w5.cell? ⟨w.heap.size + 1 + 1, 2, none⟩ = some (.int .i64 0) := (hb5.cell (p := ⟨w.heap.size + 1 + 1, 2, none⟩) (by first | (simp; done) | (simp; omega))).trans (by go_simp); have k3 : w5.cell? ⟨w.heap.size + 1 + 1, 3, none⟩ = some (.int .i64 0) := (hb5.cell (p := ⟨w.heap.size + 1 + 1, 3, none⟩) (by first | (simp; done) | (simp; omega))).trans (by go_simp); have kf : ∀ i, w5.frozen? ⟨w.heap.size + 1 + 1, i, none⟩ = false := (fun i => (World.frozen?_of_block (hb5.block (w.heap.size + 1 + 1) (by first | (simp; done) | (simp; omega)))).trans (by go_simp)); have hz52 : w.heap.size + 1 + 1 < w5.heap.size := (by have := hb5.size; simp at this; omega)) | skip); clear hb5)) | fail
    all_goals
      go_wp2_with fail
      go_meet
      refine ⟨_, rfl, rfl, hide (by have := HBW.out; (repeat (first | exact Below.refl _ _ | assumption | refine Below.drew ?_ | refine below_drewN ?_ _ | refine Below.alloc ?_ (by first | omega | (simp; done) | (simp; omega)) _ | refine Below.setCell ?_ (by first | omega | (simp; done) | (simp; omega)) _))), ?_, ?_, ?_, ?_, ?_, ?_⟩
      all_goals first | (simp; done) | (simp; omega) | go_simp
  case rest =>
    obtain ⟨cB, rfl, rfl, HBc, hcB1, hcB2, q0, q1, q2, q3⟩ := hcut
    have hR := res_block HBc.out
    have hN : wc.heap[w.heap.size]? = some (.cells #[.int .i64 o, .int .i64 vl0.kind, .int .i64 vl0.num, str vl0.text, str [], .int .i64 0] 53) := (HBc.out.block _ (by simp; omega)).trans (two_under w _ _).1
    obtain ⟨n0, n1, n2, n3, n4, n5⟩ := cells6 hN
    obtain ⟨r0, r1, r2⟩ := cells3 hR
    have rf := free6 hR
    have hz := lt_of_heap hR
    obtain ⟨z0, z1, z2⟩ := set3 hR
    have hbw : Below w.heap.size w wc := bel2 HBc.out (by (repeat (first | exact Below.refl _ _ | assumption | refine Below.drew ?_ | refine below_drewN ?_ _ | refine Below.alloc ?_ (by first | omega | (simp; done) | (simp; omega)) _ | refine Below.setCell ?_ (by first | omega | (simp; done) | (simp; omega)) _)))
    have HR := hide hR
    clear HLk HBc hR hN
    have HS := hide (show ∀ W, Below wc.heap.size wc W → (W.cell? ⟨g, off, none⟩ = some (str px) ∧ W.cell? ⟨g, off + 1, none⟩ = some (.int .i64 pl) ∧ W.cell? ⟨g, off + 2, none⟩ = some (.bool pn) ∧ W.cell? ⟨g, off + 3, none⟩ = some (str qx) ∧ W.cell? ⟨g, off + 3 + 1, none⟩ = some (.int .i64 ql) ∧ W.cell? ⟨g, off + 3 + 2, none⟩ = some (.bool qn) ∧ W.cell? ⟨cB, 0, none⟩ = some (str t) ∧ W.cell? ⟨cB, 1, none⟩ = some (.int .i64 a) ∧ W.cell? ⟨cB, 2, none⟩ = some (.int .i64 b) ∧ W.cell? ⟨cB, 3, none⟩ = some (.int .i64 d)) from fun W hb => by
      obtain ⟨⟨a0, a1, a2⟩, ⟨b0, b1, b2⟩⟩ := HA.out W (bel2 hb hbw)
      exact ⟨a0, a1, a2, b0, b1, b2, (hb.cell (p := ⟨cB, _, none⟩) hcB2).trans q0, (hb.cell (p := ⟨cB, _, none⟩) hcB2).trans q1, (hb.cell (p := ⟨cB, _, none⟩) hcB2).trans q2, (hb.cell (p := ⟨cB, _, none⟩) hcB2).trans q3⟩)
    clear q0 q1 q2 q3
    have f1 : ¬ 9223372036854775807 < xa.length + 1 := by omega
    have f2 : ¬ 9223372036854775807 < xa.length + 1 + t.length := by omega
    have f3 : ¬ 9223372036854775807 < xa.length + 1 + t.length + 1 := by omega
    have f4 : ¬ 9223372036854775807 < xa.length + 1 + t.length + 1 + xb.length := by omega
    go_wp2
    first | (go_region_held3 (fun W => W.cell? ⟨g, off, none⟩ = some (str px) ∧ W.cell? ⟨g, off + 1, none⟩ = some (.int .i64 pl) ∧ W.cell? ⟨g, off + 2, none⟩ = some (.bool pn) ∧ W.cell? ⟨g, off + 3, none⟩ = some (str qx) ∧ W.cell? ⟨g, off + 3 + 1, none⟩ = some (.int .i64 ql) ∧ W.cell? ⟨g, off + 3 + 2, none⟩ = some (.bool qn) ∧ W.cell? ⟨cB, 0, none⟩ = some (str t) ∧ W.cell? ⟨cB, 1, none⟩ = some (.int .i64 a) ∧ W.cell? ⟨cB, 2, none⟩ = some (.int .i64 b) ∧ W.cell? ⟨cB, 3, none⟩ = some (.int .i64 d))
      (first | (refine HS.out _ ?_; ((repeat (first | exact Below.refl _ _ | assumption | refine Below.drew ?_ | refine below_drewN ?_ _ | refine Below.alloc ?_ (by first | omega | (simp; done) | (simp; omega)) _ | refine Below.setCell ?_ (by first | omega | (simp; done) | (simp; omega)) _)); done)) | (go_split_ands; exact ⟨set3_far (by assumption) (by omega), set3_far (by assumption) (by omega), set3_far (by assumption) (by omega), set3_far (by assumption) (by omega), set3_far (by assumption) (by omega), set3_far (by assumption) (by omega), set3_far (by assumption) (by omega), set3_far (by assumption) (by omega), set3_far (by assumption) (by omega), set3_far (by assumption) (by omega)⟩))
      (((first | (go_at_call_of 66 (Value.int .i64 b); refine (HP.out _).mono ?_) | (go_at_call_of 66 (Value.int .i64 d); refine (HQ.out _).mono ?_)); rintro e w3 ⟨rfl, hb3⟩; have hb4 : Below wc.heap.size wc w3 := bel2 hb3 (by (repeat (first | exact Below.refl _ _ | assumption | refine Below.drew ?_ | refine below_drewN ?_ _ | refine Below.alloc ?_ (by first | omega | (simp; done) | (simp; omega)) _ | refine Below.setCell ?_ (by first | omega | (simp; done) | (simp; omega)) _))); have hbw3 : Below w.heap.size w w3 := bel2 hb4 hbw; have hR3 := (hb4.block _ hz).trans HR.out; clear r0 r1 r2 rf z0 z1 z2; obtain ⟨r0, r1, r2⟩ := cells3 hR3; have rf := free6 hR3; have hz3 := lt_of_heap hR3; obtain ⟨z0, z1, z2⟩ := set3 hR3))) | fail
    all_goals
      go_wp2
      refine bodyPost_ex rfl ?_
      apply Exists.intro
      apply And.intro
      · simp [results, Tryz.results36, go_sem, z0, z1, z2]; rfl
      · exact ⟨by rw [HE.out]; simp [ba_append], by (repeat (first | exact Below.refl _ _ | assumption | refine Below.drew ?_ | refine below_drewN ?_ _ | refine Below.alloc ?_ (by first | omega | (simp; done) | (simp; omega)) _ | refine Below.setCell ?_ (by first | omega | (simp; done) | (simp; omega)) _))⟩
end Go.Proofs.YtlfedcbihbigoaaGreatDoor
