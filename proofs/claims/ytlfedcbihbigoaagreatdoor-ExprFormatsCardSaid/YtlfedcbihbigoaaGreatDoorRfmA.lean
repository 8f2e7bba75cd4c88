/- Contracts: binary, written (ref8). Contracts: written (ref8), operator by operator. Contracts: written (ref8) of calls and binary operators; any node. Contract: Format (ref8). -/
import Derived.Test.YtlfedcbihbigoaaGreatDoorFmtPR
import Derived.Deep.CutBlock
import Derived.Deep.RegionHeld3
import Derived.Deep.RegionLawGrows
set_option linter.unusedVariables false
set_option linter.unusedSimpArgs false
namespace Go.Proofs.YtlfedcbihbigoaaGreatDoor
open Go.RowKit
set_option maxRecDepth 100000 in
set_option maxHeartbeats 4000000 in
theorem ref8_binary_any (o : Int) (p q : Pc) (w : World) (h : 4 ≤ o ∧ o ≤ 15) (hp : p.text.length ≤ 900000) (hq : q.text.length ≤ 900000) :
    Calls Tryz.prog 43 #[.int .i64 o, p.agg, q.agg] w fun e w' => e = .returned (binP o p q).agg ∧ Below w.heap.size w w' := by
  obtain ⟨t, a, b, c, HB⟩ : ∃ t a b c, Hid (binG o = (t, a, b, c)) := ⟨_, _, _, _, hide rfl⟩
  have ht := binG_len h
  have HE := hide (show binP o p q = ⟨p.at' b ++ [32] ++ t ++ [32] ++ q.at' c, a, false⟩ from by unfold binP; rw [HB.out])
  rw [HB.out] at ht
  simp only at ht
  have HP := hide (fun W => ref8_at_any p b W (by omega))
  have HQ := hide (fun W => ref8_at_any q c W (by omega))
  have lp := at_len p b
  have lq := at_len q c
  obtain ⟨px, pl, pn⟩ := p
  obtain ⟨qx, ql, qn⟩ := q
  simp only at hp hq lp lq
  generalize (Pc.mk px pl pn).at' b = xa at *
  generalize (Pc.mk qx ql qn).at' c = xb at *
  go_enter Tryz.func43, Tryz.ntmps43
  go_upto_block 0 with fail
  go_cut [7, 8, 9, 10] from 11 to 33 (fun s7 s8 s9 s10 wx => s7 = str t ∧ s8 = .int .i64 a ∧ s9 = .int .i64 b ∧ s10 = .int .i64 c ∧ Hid (Below (((w.alloc (.cells #[str px, .int .i64 pl, .bool pn] 55)).alloc (.cells #[str qx, .int .i64 ql, .bool qn] 55)).alloc (.cells #[.string ⟨#[]⟩, .int .i64 0, .bool false] 55)).heap.size (((w.alloc (.cells #[str px, .int .i64 pl, .bool pn] 55)).alloc (.cells #[str qx, .int .i64 ql, .bool qn] 55)).alloc (.cells #[.string ⟨#[]⟩, .int .i64 0, .bool false] 55)) wx))
  case first =>
    rcases (by omega : o = 4 ∨ o = 5 ∨ o = 6 ∨ o = 7 ∨ o = 8 ∨ o = 9 ∨ o = 10 ∨ o = 11 ∨ o = 12 ∨ o = 13 ∨ o = 14 ∨ o = 15) with rfl | rfl | rfl | rfl | rfl | rfl | rfl | rfl | rfl | rfl | rfl | rfl
    all_goals
      have hb := HB.out
      simp only [binG, binS, Int.reduceEq, ↓reduceIte, Option.getD_some, Prod.mk.injEq] at hb
      obtain ⟨e1, e2, e3, e4⟩ := hb
      subst e1 e2 e3 e4
      clear HE HB HP HQ
      go_wp2
      go_meet
      exact ⟨rfl, rfl, rfl, rfl, hide (Below.refl _ _)⟩
  case rest =>
    obtain ⟨rfl, rfl, rfl, rfl, HBc⟩ := hcut
    have h3 := three_under w (.cells #[str px, .int .i64 pl, .bool pn] 55) (.cells #[str qx, .int .i64 ql, .bool qn] 55) (.cells #[.string ⟨#[]⟩, .int .i64 0, .bool false] 55)
    have hR : wc.heap[w.heap.size + 1 + 1]? = _ := (HBc.out.block (w.heap.size + 2) (by simp)).trans h3.2.2
    have hQ := (HBc.out.block (w.heap.size + 1) (by simp)).trans h3.2.1
    have hP := (HBc.out.block w.heap.size (by simp; omega)).trans h3.1
    obtain ⟨r0, r1, r2⟩ := cells3 hR
    have rf := free6 hR
    have hz := lt_of_heap hR
    obtain ⟨z0, z1, z2⟩ := set3 hR
    have hbw : Below w.heap.size w wc := bel2 HBc.out (by (repeat (first | exact Below.refl _ _ | assumption | refine Below.drew ?_ | refine below_drewN ?_ _ | refine Below.alloc ?_ (by first | omega | (simp; done) | (simp; omega)) _ | refine Below.setCell ?_ (by first | omega | (simp; done) | (simp; omega)) _)))
    have HR := hide hR
    have HS := hide (show ∀ W, Below wc.heap.size wc W → (W.cell? ⟨w.heap.size, 0, none⟩ = some (str px) ∧ W.cell? ⟨w.heap.size, 1, none⟩ = some (.int .i64 pl) ∧ W.cell? ⟨w.heap.size, 2, none⟩ = some (.bool pn) ∧ W.cell? ⟨w.heap.size + 1, 0, none⟩ = some (str qx) ∧ W.cell? ⟨w.heap.size + 1, 1, none⟩ = some (.int .i64 ql) ∧ W.cell? ⟨w.heap.size + 1, 2, none⟩ = some (.bool qn)) from fun W hb => by
      obtain ⟨a0, a1, a2⟩ := cells3 ((hb.block _ (by omega)).trans hP)
      obtain ⟨b0, b1, b2⟩ := cells3 ((hb.block _ (by omega)).trans hQ)
      exact ⟨a0, a1, a2, b0, b1, b2⟩)
    clear HBc hR hQ hP h3
    have f1 : ¬ 9223372036854775807 < xa.length + 1 := by omega
    have f2 : ¬ 9223372036854775807 < xa.length + 1 + t.length := by omega
    have f3 : ¬ 9223372036854775807 < xa.length + 1 + t.length + 1 := by omega
    have f4 : ¬ 9223372036854775807 < xa.length + 1 + t.length + 1 + xb.length := by omega
    go_wp2
    first | (go_region_held3 (fun W => W.cell? ⟨w.heap.size, 0, none⟩ = some (str px) ∧ W.cell? ⟨w.heap.size, 1, none⟩ = some (.int .i64 pl) ∧ W.cell? ⟨w.heap.size, 2, none⟩ = some (.bool pn) ∧ W.cell? ⟨w.heap.size + 1, 0, none⟩ = some (str qx) ∧ W.cell? ⟨w.heap.size + 1, 1, none⟩ = some (.int .i64 ql) ∧ W.cell? ⟨w.heap.size + 1, 2, none⟩ = some (.bool qn))
      (first | (refine HS.out _ ?_; ((repeat (first | exact Below.refl _ _ | assumption | refine Below.drew ?_ | refine below_drewN ?_ _ | refine Below.alloc ?_ (by first | omega | (simp; done) | (simp; omega)) _ | refine Below.setCell ?_ (by first | omega | (simp; done) | (simp; omega)) _)); done)) | (go_split_ands; exact ⟨set3_far (by assumption) (by omega), set3_far (by assumption) (by omega), set3_far (by assumption) (by omega), set3_far (by assumption) (by omega), set3_far (by assumption) (by omega), set3_far (by assumption) (by omega)⟩))
      (((first | (go_at_call_of 42 (Value.int .i64 b); refine (HP.out _).mono ?_) | (go_at_call_of 42 (Value.int .i64 c); refine (HQ.out _).mono ?_)); rintro e w3 ⟨rfl, hb3⟩; have hb4 : Below wc.heap.size wc w3 := bel2 hb3 (by (repeat (first | exact Below.refl _ _ | assumption | refine Below.drew ?_ | refine below_drewN ?_ _ | refine Below.alloc ?_ (by first | omega | (simp; done) | (simp; omega)) _ | refine Below.setCell ?_ (by first | omega | (simp; done) | (simp; omega)) _))); have hbw3 : Below w.heap.size w w3 := bel2 hb4 hbw; have hR3 := (hb4.block _ hz).trans HR.out; clear r0 r1 r2 rf z0 z1 z2; obtain ⟨r0, r1, r2⟩ := cells3 hR3; have rf := free6 hR3; have hz3 := lt_of_heap hR3; obtain ⟨z0, z1, z2⟩ := set3 hR3))) | fail
    all_goals
      go_wp2
      refine bodyPost_ex rfl ?_
      apply Exists.intro
      apply And.intro
      · simp [results, Tryz.results43, go_sem, z0, z1, z2]; rfl
      · exact ⟨by rw [HE.out]; simp [ba_append], by (repeat (first | exact Below.refl _ _ | assumption | refine Below.drew ?_ | refine below_drewN ?_ _ | refine Below.alloc ?_ (by first | omega | (simp; done) | (simp; omega)) _ | refine Below.setCell ?_ (by first | omega | (simp; done) | (simp; omega)) _))⟩
end Go.Proofs.YtlfedcbihbigoaaGreatDoor

namespace Go.Proofs.YtlfedcbihbigoaaGreatDoor
open Go.RowKit
set_option maxRecDepth 100000 in
set_option maxHeartbeats 1000000 in
theorem ref8_written_const (v : Vl) (A : Option Addr) (c : Nat) (w : World) (hv : validV v.kind v.num v.text = true) :
    Calls Tryz.prog 25 #[(⟨0, v, [], 0⟩ : Nd).agg, .slice A 0 c] w fun e w' => e = .returned (litP v).agg ∧ Below w.heap.size w w' := by
  have HL := hide (fun W => ref8_literal_any v W hv)
  clear hv
  generalize litP v = r at *
  obtain ⟨rx, rl, rn⟩ := r
  obtain ⟨vk, vn, vx⟩ := v
  go_enter Tryz.func25, Tryz.ntmps25
  go_wp2_with (go_at_call 41; refine (HL.out _).mono ?_; rintro e w1 ⟨rfl, hb1⟩; have hR1 := res_block hb1; obtain ⟨r0, r1, r2⟩ := cells3 hR1; have rf := free6 hR1; have hz1 := lt_of_heap hR1; obtain ⟨z0, z1, z2⟩ := set3 hR1; have hbW : Below w.heap.size w w1 := bel2 hb1 (by (repeat (first | exact Below.refl _ _ | assumption | refine Below.drew ?_ | refine below_drewN ?_ _ | refine Below.alloc ?_ (by first | omega | (simp; done) | (simp; omega)) _ | refine Below.setCell ?_ (by first | omega | (simp; done) | (simp; omega)) _))))
  refine bodyPost_ex rfl ?_
  apply Exists.intro
  apply And.intro
  · simp [results, Tryz.results25, go_sem, z0, z1, z2]; rfl
  · exact ⟨rfl, by (repeat (first | exact Below.refl _ _ | assumption | refine Below.drew ?_ | refine below_drewN ?_ _ | refine Below.alloc ?_ (by first | omega | (simp; done) | (simp; omega)) _ | refine Below.setCell ?_ (by first | omega | (simp; done) | (simp; omega)) _))⟩

set_option maxRecDepth 100000 in
set_option maxHeartbeats 1000000 in
theorem ref8_written_col (x : Bytes) (A : Option Addr) (c : Nat) (w : World) :
    Calls Tryz.prog 25 #[(⟨1, vl0, x, 0⟩ : Nd).agg, .slice A 0 c] w fun e w' => e = .returned (⟨x, 8, false⟩ : Pc).agg ∧ Below w.heap.size w w' := by
  go_enter Tryz.func25, Tryz.ntmps25
  go_wp2
  refine bodyPost_ex rfl ?_
  apply Exists.intro
  apply And.intro
  · simp [results, Tryz.results25, go_sem]; rfl
  · exact ⟨rfl, by (repeat (first | exact Below.refl _ _ | assumption | refine Below.drew ?_ | refine below_drewN ?_ _ | refine Below.alloc ?_ (by first | omega | (simp; done) | (simp; omega)) _ | refine Below.setCell ?_ (by first | omega | (simp; done) | (simp; omega)) _))⟩

set_option maxRecDepth 100000 in
set_option maxHeartbeats 1000000 in
theorem ref8_written_not (p : Pc) (g off c : Nat) (w : World) (hA : PcAt w g off p) (hg : g < w.heap.size) (hp : p.text.length ≤ 900000) :
    Calls Tryz.prog 25 #[(⟨2, vl0, [], 0⟩ : Nd).agg, .slice (some ⟨g, off, none⟩) 1 c] w fun e w' => e = .returned (⟨[110, 111, 116, 32] ++ p.at' 2, 2, false⟩ : Pc).agg ∧ Below w.heap.size w w' := by
  have HP := hide (fun W => ref8_at_any p 2 W (by omega))
  have lp := at_len p 2
  obtain ⟨px, pl, pn⟩ := p
  simp only at hp lp
  obtain ⟨k0, k1, k2⟩ := hA
  generalize (Pc.mk px pl pn).at' 2 = xa at *
  go_enter Tryz.func25, Tryz.ntmps25
  go_wp2_with (go_at_call 42; refine (HP.out _).mono ?_; rintro e w1 ⟨rfl, hb1⟩; have hR1 := res_block hb1; obtain ⟨r0, r1, r2⟩ := cells3 hR1; have rf := free6 hR1; have hz1 := lt_of_heap hR1; obtain ⟨z0, z1, z2⟩ := set3 hR1; have hbW : Below w.heap.size w w1 := bel2 hb1 (by (repeat (first | exact Below.refl _ _ | assumption | refine Below.drew ?_ | refine below_drewN ?_ _ | refine Below.alloc ?_ (by first | omega | (simp; done) | (simp; omega)) _ | refine Below.setCell ?_ (by first | omega | (simp; done) | (simp; omega)) _))))
  refine bodyPost_ex rfl ?_
  apply Exists.intro
  apply And.intro
  · simp [results, Tryz.results25, go_sem, z0, z1, z2]; rfl
  · exact ⟨by simp [ba_append], by (repeat (first | exact Below.refl _ _ | assumption | refine Below.drew ?_ | refine below_drewN ?_ _ | refine Below.alloc ?_ (by first | omega | (simp; done) | (simp; omega)) _ | refine Below.setCell ?_ (by first | omega | (simp; done) | (simp; omega)) _))⟩

set_option maxRecDepth 100000 in
set_option maxHeartbeats 1000000 in
theorem ref8_written_neg (p : Pc) (g off c : Nat) (w : World) (hA : PcAt w g off p) (hg : g < w.heap.size) (hp : p.text.length ≤ 900000) (hn : p.num = false) :
    Calls Tryz.prog 25 #[(⟨3, vl0, [], 0⟩ : Nd).agg, .slice (some ⟨g, off, none⟩) 1 c] w fun e w' => e = .returned (⟨[45] ++ p.at' 7, 7, false⟩ : Pc).agg ∧ Below w.heap.size w w' := by
  have HP := hide (fun W => ref8_at_any p 7 W (by omega))
  have lp := at_len p 7
  obtain ⟨px, pl, pn⟩ := p
  simp only at hp lp hn
  obtain ⟨k0, k1, k2⟩ := hA
  generalize (Pc.mk px pl pn).at' 7 = xa at *
  subst hn
  go_enter Tryz.func25, Tryz.ntmps25
  go_wp2_with (go_at_call 42; refine (HP.out _).mono ?_; rintro e w1 ⟨rfl, hb1⟩; have hR1 := res_block hb1; obtain ⟨r0, r1, r2⟩ := cells3 hR1; have rf := free6 hR1; have hz1 := lt_of_heap hR1; obtain ⟨z0, z1, z2⟩ := set3 hR1; have hbW : Below w.heap.size w w1 := bel2 hb1 (by (repeat (first | exact Below.refl _ _ | assumption | refine Below.drew ?_ | refine below_drewN ?_ _ | refine Below.alloc ?_ (by first | omega | (simp; done) | (simp; omega)) _ | refine Below.setCell ?_ (by first | omega | (simp; done) | (simp; omega)) _))))
  refine bodyPost_ex rfl ?_
  apply Exists.intro
  apply And.intro
  · simp [results, Tryz.results25, go_sem, z0, z1, z2]; rfl
  · exact ⟨by simp [ba_append], by (repeat (first | exact Below.refl _ _ | assumption | refine Below.drew ?_ | refine below_drewN ?_ _ | refine Below.alloc ?_ (by first | omega | (simp; done) | (simp; omega)) _ | refine Below.setCell ?_ (by first | omega | (simp; done) | (simp; omega)) _))⟩

set_option maxRecDepth 100000 in
set_option maxHeartbeats 1000000 in
theorem ref8_written_num (p : Pc) (g off c : Nat) (w : World) (hA : PcAt w g off p) (hg : g < w.heap.size) (hp : p.text.length ≤ 900000) (hn : p.num = true) :
    Calls Tryz.prog 25 #[(⟨3, vl0, [], 0⟩ : Nd).agg, .slice (some ⟨g, off, none⟩) 1 c] w fun e w' => e = .returned (⟨[45, 40] ++ p.text ++ [41], 7, false⟩ : Pc).agg ∧ Below w.heap.size w w' := by
  obtain ⟨px, pl, pn⟩ := p
  simp only at hp hn
  obtain ⟨k0, k1, k2⟩ := hA
  subst hn
  go_enter Tryz.func25, Tryz.ntmps25
  go_wp2
  refine bodyPost_ex rfl ?_
  apply Exists.intro
  apply And.intro
  · simp [results, Tryz.results25, go_sem]; rfl
  · exact ⟨by simp [ba_append], by (repeat (first | exact Below.refl _ _ | assumption | refine Below.drew ?_ | refine below_drewN ?_ _ | refine Below.alloc ?_ (by first | omega | (simp; done) | (simp; omega)) _ | refine Below.setCell ?_ (by first | omega | (simp; done) | (simp; omega)) _))⟩

set_option maxRecDepth 100000 in
set_option maxHeartbeats 1000000 in
theorem ref8_written_day (p : Pc) (y : Bytes) (g off c : Nat) (w : World) (hA : PcAt w g off p) (hg : g < w.heap.size) (hp : p.text.length ≤ 900000) (hy : y.length ≤ 49) :
    Calls Tryz.prog 25 #[(⟨20, vl0, y, 0⟩ : Nd).agg, .slice (some ⟨g, off, none⟩) 1 c] w fun e w' => e = .returned (⟨wDay ++ [40] ++ List.intercalate [44, 32] [p.text, y] ++ [41], 8, false⟩ : Pc).agg ∧ Below w.heap.size w w' := by
  have HI := hide (show wDay ++ [40] ++ List.intercalate [44, 32] [p.text, y] ++ [41] = [100, 97, 121, 40] ++ p.text ++ [44, 32] ++ y ++ [41] from by simp [wDay, List.intercalate, List.intersperse])
  obtain ⟨px, pl, pn⟩ := p
  simp only at hp HI
  obtain ⟨k0, k1, k2⟩ := hA
  go_enter Tryz.func25, Tryz.ntmps25
  go_wp2
  go_region
  all_goals
    go_wp2
    refine bodyPost_ex rfl ?_
    apply Exists.intro
    apply And.intro
    · simp [results, Tryz.results25, go_sem]; rfl
    · exact ⟨by rw [HI.out]; simp [ba_append], by (repeat (first | exact Below.refl _ _ | assumption | refine Below.drew ?_ | refine below_drewN ?_ _ | refine Below.alloc ?_ (by first | omega | (simp; done) | (simp; omega)) _ | refine Below.setCell ?_ (by first | omega | (simp; done) | (simp; omega)) _))⟩
end Go.Proofs.YtlfedcbihbigoaaGreatDoor

namespace Go.Proofs.YtlfedcbihbigoaaGreatDoor
open Go.RowKit
set_option maxRecDepth 100000 in
set_option maxHeartbeats 2000000 in
theorem ref8_written_bin (o : Int) (p q : Pc) (g off c : Nat) (w : World) (ho : 4 ≤ o ∧ o ≤ 15) (hA : PcAt w g off p) (hB : PcAt w g (off + 3) q) (hg : g < w.heap.size) (hp : p.text.length ≤ 900000) (hq : q.text.length ≤ 900000) :
    Calls Tryz.prog 25 #[(⟨o, vl0, [], 0⟩ : Nd).agg, .slice (some ⟨g, off, none⟩) 2 c] w fun e w' => e = .returned (binP o p q).agg ∧ Below w.heap.size w w' := by
  have HBn := hide (fun W => ref8_binary_any o p q W ho hp hq)
  generalize binP o p q = r at *
  obtain ⟨rx, rl, rn⟩ := r
  obtain ⟨px, pl, pn⟩ := p
  obtain ⟨qx, ql, qn⟩ := q
  obtain ⟨a0, a1, a2⟩ := hA
  obtain ⟨b0, b1, b2⟩ := hB
  simp only at a0 a1 a2 b0 b1 b2
  have t0 : (o == 0) = false := beq_eq_false_iff_ne.2 (by omega)
  have t1 : (o == 1) = false := beq_eq_false_iff_ne.2 (by omega)
  have t2 : (o == 2) = false := beq_eq_false_iff_ne.2 (by omega)
  have t3 : (o == 3) = false := beq_eq_false_iff_ne.2 (by omega)
  have t4 : (o == 20) = false := beq_eq_false_iff_ne.2 (by omega)
  have t5 : (o == 16) = false := beq_eq_false_iff_ne.2 (by omega)
  have t6 : (o == 17) = false := beq_eq_false_iff_ne.2 (by omega)
  have t7 : (o == 18) = false := beq_eq_false_iff_ne.2 (by omega)
  have t8 : (o == 19) = false := beq_eq_false_iff_ne.2 (by omega)
  have t9 : (o == 21) = false := beq_eq_false_iff_ne.2 (by omega)
  have HS := hide (show ∀ W, Below ((w.alloc (.cells #[.int .i64 o, .int .i64 vl0.kind, .int .i64 vl0.num, str vl0.text, str [], .int .i64 0] 53)).alloc (.cells #[.string ⟨#[]⟩, .int .i64 0, .bool false] 55)).heap.size ((w.alloc (.cells #[.int .i64 o, .int .i64 vl0.kind, .int .i64 vl0.num, str vl0.text, str [], .int .i64 0] 53)).alloc (.cells #[.string ⟨#[]⟩, .int .i64 0, .bool false] 55)) W → (W.cell? ⟨w.heap.size, 0, none⟩ = some (.int .i64 o) ∧ W.cell? ⟨g, off, none⟩ = some (str px) ∧ W.cell? ⟨g, off + 1, none⟩ = some (.int .i64 pl) ∧ W.cell? ⟨g, off + 2, none⟩ = some (.bool pn) ∧ W.cell? ⟨g, off + 3, none⟩ = some (str qx) ∧ W.cell? ⟨g, off + 3 + 1, none⟩ = some (.int .i64 ql) ∧ W.cell? ⟨g, off + 3 + 2, none⟩ = some (.bool qn)) from fun W hb => by
    have hbw : Below w.heap.size w W := bel2 hb (by (repeat (first | exact Below.refl _ _ | assumption | refine Below.drew ?_ | refine below_drewN ?_ _ | refine Below.alloc ?_ (by first | omega | (simp; done) | (simp; omega)) _ | refine Below.setCell ?_ (by first | omega | (simp; done) | (simp; omega)) _)))
    exact ⟨(cells6 ((hb.block w.heap.size (by simp; omega)).trans (two_under w _ _).1)).1, (hbw.cell (p := ⟨g, _, none⟩) hg).trans a0, (hbw.cell (p := ⟨g, _, none⟩) hg).trans a1, (hbw.cell (p := ⟨g, _, none⟩) hg).trans a2, (hbw.cell (p := ⟨g, _, none⟩) hg).trans b0, (hbw.cell (p := ⟨g, _, none⟩) hg).trans b1, (hbw.cell (p := ⟨g, _, none⟩) hg).trans b2⟩)
  clear a0 a1 a2 b0 b1 b2
  go_enter Tryz.func25, Tryz.ntmps25
  go_wp2
  first | (go_region_held3 (fun W => W.cell? ⟨w.heap.size, 0, none⟩ = some (.int .i64 o) ∧ W.cell? ⟨g, off, none⟩ = some (str px) ∧ W.cell? ⟨g, off + 1, none⟩ = some (.int .i64 pl) ∧ W.cell? ⟨g, off + 2, none⟩ = some (.bool pn) ∧ W.cell? ⟨g, off + 3, none⟩ = some (str qx) ∧ W.cell? ⟨g, off + 3 + 1, none⟩ = some (.int .i64 ql) ∧ W.cell? ⟨g, off + 3 + 2, none⟩ = some (.bool qn))
    (first | (refine HS.out _ ?_; ((repeat (first | exact Below.refl _ _ | assumption | refine Below.drew ?_ | refine below_drewN ?_ _ | refine Below.alloc ?_ (by first | omega | (simp; done) | (simp; omega)) _ | refine Below.setCell ?_ (by first | omega | (simp; done) | (simp; omega)) _)); done)) | (go_split_ands; exact ⟨set3_far (by assumption) (by omega), set3_far (by assumption) (by omega), set3_far (by assumption) (by omega), set3_far (by assumption) (by omega), set3_far (by assumption) (by omega), set3_far (by assumption) (by omega), set3_far (by assumption) (by omega)⟩))
    ((go_at_call 43; refine (HBn.out _).mono ?_; rintro e w1 ⟨rfl, hb1⟩; have hb4 : Below ((w.alloc (.cells #[.int .i64 o, .int .i64 vl0.kind, .int .i64 vl0.num, str vl0.text, str [], .int .i64 0] 53)).alloc (.cells #[.string ⟨#[]⟩, .int .i64 0, .bool false] 55)).heap.size ((w.alloc (.cells #[.int .i64 o, .int .i64 vl0.kind, .int .i64 vl0.num, str vl0.text, str [], .int .i64 0] 53)).alloc (.cells #[.string ⟨#[]⟩, .int .i64 0, .bool false] 55)) w1 := bel2 hb1 (by (repeat (first | exact Below.refl _ _ | assumption | refine Below.drew ?_ | refine below_drewN ?_ _ | refine Below.alloc ?_ (by first | omega | (simp; done) | (simp; omega)) _ | refine Below.setCell ?_ (by first | omega | (simp; done) | (simp; omega)) _))); have hR1 := res_block hb4; obtain ⟨r0, r1, r2⟩ := cells3 hR1; have rf := free6 hR1; have hz1 := lt_of_heap hR1; obtain ⟨z0, z1, z2⟩ := set3 hR1; have hbW : Below w.heap.size w w1 := bel2 hb4 (by (repeat (first | exact Below.refl _ _ | assumption | refine Below.drew ?_ | refine below_drewN ?_ _ | refine Below.alloc ?_ (by first | omega | (simp; done) | (simp; omega)) _ | refine Below.setCell ?_ (by first | omega | (simp; done) | (simp; omega)) _)))))) | fail
  all_goals
    go_wp2
    refine bodyPost_ex rfl ?_
    apply Exists.intro
    apply And.intro
    · simp [results, Tryz.results25, go_sem, z0, z1, z2]; rfl
    · exact ⟨rfl, by (repeat (first | exact Below.refl _ _ | assumption | refine Below.drew ?_ | refine below_drewN ?_ _ | refine Below.alloc ?_ (by first | omega | (simp; done) | (simp; omega)) _ | refine Below.setCell ?_ (by first | omega | (simp; done) | (simp; omega)) _))⟩
def CallOp (o : Int) : Prop := o = 16 ∨ o = 17 ∨ o = 18 ∨ o = 19 ∨ o = 21
set_option maxRecDepth 100000 in
set_option maxHeartbeats 4000000 in
theorem ref8_written_call (o : Int) (y : Bytes) (a : Int) (l : List Pc) (A : Option Addr) (c : Nat) (w : World) (hA : PcsAt w A l) (ho : CallOp o) (hy : y.length ≤ 49) (hl : l.length ≤ 8) (hs : sumL l ≤ 100000) :
    Calls Tryz.prog 25 #[(⟨o, vl0, y, a⟩ : Nd).agg, .slice A l.length c] w fun e w' => e = .returned (⟨preS (fnS o y) l l.length ++ [41], 8, false⟩ : Pc).agg ∧ Below w.heap.size w w' := by
  have HA := hide hA
  have hf := fnS_len (o := o) (x := y) hy
  have HL := hide (fun k => preS_len (x := fnS o y) (l := l) (by omega) hl k)
  clear hA
  obtain ⟨x, hx⟩ : ∃ x, x = fnS o y := ⟨_, rfl⟩
  rw [← hx] at HL hf
  have HX := hide hx
  rw [← hx]
  clear hx
  obtain ⟨pf, hpf⟩ : ∃ pf : Nat → Bytes, pf = preS x l := ⟨_, rfl⟩
  have H0 := hide (show pf 0 = x ++ [40] from by rw [hpf]; exact preS_zero x l)
  have HQ0 := hide (show ∀ h : 0 < l.length, pf 1 = pf 0 ++ l[0].text from fun h => by rw [hpf, preS_one x l h, preS_zero])
  have HQ1 := hide (show ∀ k (h : k < l.length), 0 < k → pf (k + 1) = pf k ++ [44, 32] ++ l[k].text from fun k h h0 => by rw [hpf]; exact preS_succ x l k h h0)
  rw [← hpf] at HL
  rw [show preS x l l.length = pf l.length from by rw [hpf]]
  clear hpf
  rcases ho with rfl | rfl | rfl | rfl | rfl
  all_goals
    have hx := HX.out
    simp only [fnS, Int.reduceEq, ↓reduceIte] at hx
    subst hx
    go_enter Tryz.func25, Tryz.ntmps25
    go_wp2
    go_loop [6, 7] (fun s i => ∃ k : Nat, k ≤ l.length ∧ i = .int .i64 k ∧ s = str (pf k)) (fun _ i => l.length - (intOf i).toNat)
    case atStart => exact ⟨0, by omega, rfl, by rw [H0.out]; simp [ba_append]⟩
    case round =>
      obtain ⟨k, hk, rfl, rfl⟩ := hrel
      have hq := HL.out k
      by_cases hlt : k < l.length
      · rcases HA.out with h | ⟨g, off, rfl, hg, hc⟩
        · exact absurd hlt (by rw [h]; simp)
        obtain ⟨c1, c2, c3⟩ := pc_of_cells hc k hlt
        have hp := mem_sumL l _ (List.getElem_mem hlt)
        have HS0 := hide (show k = 0 → pf (k + 1) = pf k ++ l[k].text from fun e => by subst e; exact HQ0.out hlt)
        have HS1 := hide (HQ1.out k hlt)
        clear hc
        generalize l[k].text = t at *
        by_cases hz : k = 0
        · have HE := hide (HS0.out hz)
          have hk0 : decide (0 < k) = false := by simp [hz]
          clear hz
          go_wp2
          go_round
          case rel => exact ⟨k + 1, by omega, by go_num, by rw [HE.out]; simp [ba_append]⟩
          case measure => simp [intOf]; omega
        · have HE := hide (HS1.out (by omega))
          have hk0 : 0 < k := by omega
          clear hz
          go_wp2
          go_round
          case rel => exact ⟨k + 1, by omega, by go_num, by rw [HE.out]; simp [ba_append]⟩
          case measure => simp [intOf]; omega
      · obtain rfl : k = l.length := by omega
        clear HL H0
        go_wp2
        refine bodyPost_ex rfl ?_
        apply Exists.intro
        apply And.intro
        · simp [results, Tryz.results25, go_sem]; rfl
        · exact ⟨by simp [ba_append], by (repeat (first | exact Below.refl _ _ | assumption | refine Below.drew ?_ | refine below_drewN ?_ _ | refine Below.alloc ?_ (by first | omega | (simp; done) | (simp; omega)) _ | refine Below.setCell ?_ (by first | omega | (simp; done) | (simp; omega)) _))⟩
theorem ref8_written_any (n : Nd) (l : List Pc) (A : Option Addr) (c : Nat) (w : World) (hn : n.ok = true) (hl : (l.length : Int) = n.ar) (hA : PcsAt w A l) (hs : sumL l ≤ 100000) :
    Calls Tryz.prog 25 #[n.agg, .slice A l.length c] w fun e w' => e = .returned (writeS n l).agg ∧ Below w.heap.size w w' := by
  rcases node_parts hn hl hs with ⟨v, rfl, rfl, hv, hw⟩ | ⟨x, rfl, rfl, hw⟩ | ⟨p, rfl, rfl, hp, hw⟩ | ⟨p, rfl, rfl, hp, hnum, hw⟩ | ⟨p, rfl, rfl, hp, hnum, hw⟩ | ⟨o, p, q, rfl, rfl, ho, hp, hq, hw⟩ | ⟨o, y, a, rfl, ho, hl8, hy, h20, hw⟩
  · rw [hw]; exact ref8_written_const v A c w hv
  · rw [hw]; exact ref8_written_col x A c w
  · obtain ⟨g, off, rfl, hg, ha⟩ := hA.one
    rw [hw]; exact ref8_written_not p g off c w ha hg hp
  · obtain ⟨g, off, rfl, hg, ha⟩ := hA.one
    rw [hw]; exact ref8_written_num p g off c w ha hg hp hnum
  · obtain ⟨g, off, rfl, hg, ha⟩ := hA.one
    rw [hw]; exact ref8_written_neg p g off c w ha hg hp hnum
  · obtain ⟨g, off, rfl, hg, ha, hb⟩ := hA.two
    rw [hw]; exact ref8_written_bin o p q g off c w ho ha hb hg hp hq
  · by_cases e20 : o = 20
    · subst e20
      obtain ⟨p, rfl⟩ := one_of (h20 rfl)
      obtain ⟨g, off, rfl, hg, ha⟩ := hA.one
      have h0 := mem_sumL [p] p (by simp)
      obtain rfl : a = 0 := by
        rcases nd_cases hn with ⟨h, _⟩ | ⟨h, _⟩ | ⟨_, e, _⟩ | ⟨h, _⟩ | ⟨_, h, _⟩
        · simp at h
        · simp at h
        · injection e
        · simp at h
        · simp at h
      rw [hw]; exact ref8_written_day p y g off c w ha hg (by omega) hy
    · rw [hw, if_neg e20, List.append_nil]
      have := ref8_written_call o y a l A c w hA (by unfold CallOp; omega) hy hl8 hs
      rw [show preS (fnS o y) l l.length = fnS o y ++ [40] ++ List.intercalate [44, 32] (l.map Pc.text) from by unfold preS; rw [List.take_length]] at this
      exact this
end Go.Proofs.YtlfedcbihbigoaaGreatDoor

namespace Go.Proofs.YtlfedcbihbigoaaGreatDoor
open Go.RowKit
theorem Tryz.info_part : (Tryz.prog.info? 55).map (fun i => (i.zero, i.size, i.bytes)) = some (some (.agg #[.string ⟨#[]⟩, .int .i64 0, .bool false]), 3, 32) := by kernel_rfl
set_option maxRecDepth 100000 in
set_option maxHeartbeats 8000000 in
theorem ref8_Format_any (A : Option Addr) (es : List Nd) (c : Nat) (w : World) (hE : NdsAt w A es) (hle : es.length ≤ 1000000) (hx : NamesOk es) :
    Calls Tryz.prog 11 #[.slice A es.length c] w fun e w' => e = .returned (.tuple #[str (fmtR es).1, .int .i64 (fmtR es).2]) ∧ Below w.heap.size w w' := by
  have HE := hide hE
  have HV := hide (ref8_Validate_any A es c w hE hle hx)
  clear hE hx
  obtain ⟨i0, hi, hz0, hz1, hz2⟩ := info_parts Tryz.info_part
  by_cases h8 : validE es = 0
  rotate_left
  · have HF := hide (fmtR_bad h8)
    have hne : (validE es != 0) = true := by simpa using h8
    clear h8
    generalize validE es = x at *
    go_enter Tryz.func11, Tryz.ntmps11
    go_wp2_with (go_at_call 20; refine (HV.out).mono ?_; rintro e w1 ⟨rfl, hb1⟩)
    go_ret2
    exact ⟨by rw [HF.out]; rfl, hb1⟩
  rw [h8] at HV
  have hle2 := valid_le h8
  have H8 := hide h8
  clear h8
  go_enter Tryz.func11, Tryz.ntmps11
  go_wp2_with (go_at_call 20; refine (HV.out).mono ?_; rintro e w1 ⟨rfl, hb1⟩)
  go_loopw [5, 6] (fun s i wr => ∃ (k n : Nat) (ps : List Pc) (A' : Option Addr) (c' : Nat), s = .slice A' n c' ∧ i = .int .i64 k ∧ k ≤ es.length ∧ Hid (FRel es k n ps) ∧
      wr.ownsRow w.heap.size 55 3 (.slice A' n c') n (pcCells ps) ∧ Below w.heap.size w wr) (fun _ i _ => es.length - (intOf i).toNat)
  case atStart => exact ⟨0, 0, [], none, 0, rfl, rfl, by omega, hide (frel_start es), own_nil _ _ _ _, hb1⟩
  case round =>
    clear hb1
    obtain ⟨k, n, ps, A', c', rfl, rfl, hk, HR, hown, hbel⟩ := hrel
    have hsz := hbel.size
    by_cases hlt2 : k < es.length
    · obtain ⟨a, ha, ha8, han, hok, hdl, hsl, hwl, hst⟩ := frel_step H8.out hlt2 HR.out
      have hpl := HR.out.len
      have hn256 : n ≤ 256 := by
        obtain ⟨st, h1, h2⟩ := HR.out.ht
        have := (h1.facts hk).2; omega
      have HST0 := hide hst
      have HOk := hide hok
      clear hst hok
      rcases HE.out.below hbel with e | ⟨g, off, rfl, hg, hc⟩
      · exact absurd hlt2 (by rw [e]; simp)
      have HNd := hide (fun W (hW : Below wr.heap.size wr W) => (nd_of_cells (w := W) (g := g) (off := off) (es := es) (fun j u hu => (hW.cell (p := ⟨g, off + j, none⟩) hg).trans (hc j u hu)) k hlt2))
      have HAr := hide (fun W => ref8_Arity_any es[k].op es[k].val.kind es[k].val.num es[k].arity ⟨es[k].val.text.toArray⟩ ⟨es[k].name.toArray⟩ W)
      have ha1 : arityN es[k].op es[k].arity = (a : Int) := ha
      clear hc
      obtain ⟨nd, hn⟩ : ∃ nd, nd = es[k] := ⟨_, rfl⟩
      rw [← hn] at HNd HAr ha1 HST0 HOk hdl hwl
      clear hn ha
      have HA1 := hide (fun W => by have := HAr.out W; rw [ha1] at this; exact this)
      obtain ⟨r, hr⟩ : ∃ r, r = n - a := ⟨_, rfl⟩
      have hr2 : n = r + a := by omega
      have hsub : (n : Int) - (a : Int) = (r : Int) := by omega
      rw [← hr] at HST0 hdl hsl hwl
      have hda : (ps.drop r).length = a := by rw [List.length_drop]; omega
      have HWr := hide (fun X xc W (hX : PcsAt W X (ps.drop r)) => (show Calls Tryz.prog 25 #[nd.agg, .slice X a xc] W (fun e w' => e = .returned (writeS nd (ps.drop r)).agg ∧ Below W.heap.size W w') from by
        have := ref8_written_any nd (ps.drop r) X xc W HOk.out hdl hX (by omega)
        rw [hda] at this; exact this))
      have hcap := own_cap hown
      have HO := hide hown
      obtain ⟨n0, n1, n2, n3, n4, n5⟩ := HNd.out wr (Below.refl _ _)
      have HPush0 := hide (pc_push ps r (writeS nd (ps.drop r)))
      generalize writeS nd (ps.drop r) = res at *
      obtain ⟨rx, rl, rn⟩ := res
      simp only at hwl
      clear hr ha1 hown hdl hsl
      go_wp2_with (go_at_call 24; refine (HA1.out _).mono ?_; rintro e w1 ⟨rfl, hb1⟩; obtain ⟨m0, m1, m2, m3, m4, m5⟩ := HNd.out _ hb1)
      subst hr2
      have HST := HST0
      have HPush := HPush0
      clear HST0 HPush0
      have hbw1 := bel2 hb1 hbel
      have hs1 := hb1.size
      have HOL := hide (fun W (hW : Below wr.heap.size wr W) => fun b hb j u hu => own_cells (own_below HO.out hW) b hb j u (take_some (m := r * 3) hu))
      have HLo := hide (show ((pcCells ps).take (r * 3)).length = r * 3 from by rw [List.length_take, pcCells_len, hpl]; omega)
      have hKn : PcsAt w1 (if c' = r then A' else A'.map (·.add (r * 3))) (ps.drop r) := (pc_own HO.out hpl (by omega)).below hb1
      have b0 : (0 : Int) ≤ (r : Int) := by omega
      have b1 : (r : Int) ≤ ((r + a : Nat) : Int) := by omega
      have b2 : (r : Int) ≤ (c' : Int) := by omega
      have b3 : (r : Int) ≤ (r : Int) + (a : Int) := by omega
      clear n0 n1 n2 n3 n4 n5
      rcases HO.out.2 with ⟨hv, hn0⟩ | ⟨gs, cap, cur, hv, hgs, hh, hnc, hcapm, hsz2, htk⟩
      · injection hv with h1 h2 h3
        subst h1 h3
        obtain rfl : r = 0 := by omega
        obtain rfl : a = 0 := by omega
        have hKn2 : PcsAt w1 none (ps.drop 0) := by
          rcases hKn with h | ⟨g1, o1, h, _⟩
          · exact .inl h
          · exfalso; revert h; split <;> simp
        clear hKn
        first | (go_region_held3 (fun w' => w'.cell? ⟨g, off + k * 6, none⟩ = some (.int .i64 nd.op) ∧ w'.cell? ⟨g, off + k * 6 + 1, none⟩ = some (.int .i64 nd.val.kind) ∧ w'.cell? ⟨g, off + k * 6 + 2, none⟩ = some (.int .i64 nd.val.num) ∧ w'.cell? ⟨g, off + k * 6 + 3, none⟩ = some (str nd.val.text) ∧ w'.cell? ⟨g, off + k * 6 + 4, none⟩ = some (str nd.name) ∧ w'.cell? ⟨g, off + k * 6 + 5, none⟩ = some (.int .i64 nd.arity))
          (first | (refine HNd.out _ ?_; ((repeat (first | exact Below.refl _ _ | assumption | refine Below.drew ?_ | refine below_drewN ?_ _ | refine Below.alloc ?_ (by first | omega | (simp; done) | (simp; omega)) _ | refine Below.setCell ?_ (by first | omega | (simp; done) | (simp; omega)) _)); done)) | go_keep)
          ((first | (go_at_call 25; refine (HWr.out _ _ _ (hKn2.below (by (repeat (first | exact Below.refl _ _ | assumption | refine Below.drew ?_ | refine below_drewN ?_ _ | refine Below.alloc ?_ (by first | omega | (simp; done) | (simp; omega)) _ | refine Below.setCell ?_ (by first | omega | (simp; done) | (simp; omega)) _))))).mono ?_; rintro e w3 ⟨rfl, hb3⟩; have hb4 : Below wr.heap.size wr w3 := Below.trans (by (repeat (first | exact Below.refl _ _ | assumption | refine Below.drew ?_ | refine below_drewN ?_ _ | refine Below.alloc ?_ (by first | omega | (simp; done) | (simp; omega)) _ | refine Below.setCell ?_ (by first | omega | (simp; done) | (simp; omega)) _))) (hb3.mono (by simp; omega)); have hb5 := bel2 hb4 hbel; have hz4 := hb4.size; (first | (have hxb : w3.heap[w1.heap.size]? = some (.cells #[.string ⟨#[]⟩, .int .i64 0, .bool false] 55) := (hb3.block _ (by simp)).trans (heap_alloc_new w1 _); obtain ⟨x0, x1, x2⟩ := cells3 hxb; have xf := free6 hxb; obtain ⟨s0, s1, s2⟩ := set3 hxb; have hz5 := lt_of_heap hxb; clear hxb) | skip))))) | fail
        all_goals
          have hno := hb5
          clear m0 m1 m2 m3 m4 m5
          go_wp2
          first | (go_region_law ((refine step_append_grows (by rfl) _ _ _ (by rfl) 55 i0 _ 3 32 Tryz.underlying48 hi hz0 hz1 hz2 rfl (by omega) _ _ _ _ (by rfl) (by intro e; first | (cases e; done) | exact ⟨rfl, rfl⟩) HLo.out (HOL.out _ (by (repeat (first | exact Below.refl _ _ | assumption | refine Below.drew ?_ | refine below_drewN ?_ _ | refine Below.alloc ?_ (by first | omega | (simp; done) | (simp; omega)) _ | refine Below.setCell ?_ (by first | omega | (simp; done) | (simp; omega)) _)))) ⟨_, 0, none⟩ 1 1 [str rx, .int .i64 rl, .bool rn] (by rfl) rfl (by exact cells_3g (heap_new_at (by simp))) (by simp [Value.oneCell']) (by omega) (by unfold maxLen; omega) (by omega) ?_; intro v' w4 hown4 hgrow4))) | fail
          all_goals
            obtain ⟨A3, c3, rfl⟩ := own_form hown4
            have hb6 : Below w.heap.size w w4 := (show Below w.heap.size w _ from by (repeat (first | exact Below.refl _ _ | assumption | refine Below.drew ?_ | refine below_drewN ?_ _ | refine Below.alloc ?_ (by first | omega | (simp; done) | (simp; omega)) _ | refine Below.setCell ?_ (by first | omega | (simp; done) | (simp; omega)) _))).grown hgrow4 (by simp; omega) (fun k hk => by cases hk)
            have hown5 := own_low (b2 := w.heap.size) hown4 (by simp; omega)
            have HFin := hide (And.intro HST.out (And.intro hown5 HPush.out))
            clear hown4 hown5 hgrow4
            go_wp2
            exact ⟨⟨k + 1, _, _, A3, c3, rfl, by go_num, by omega, hide (by first | exact HFin.out.1 | (have := HFin.out.1; simpa using this)), by have := HFin.out.2.1; rw [HFin.out.2.2] at this; exact this, hb6⟩, by simp [intOf]; omega⟩
      · injection hv with h1 h2 h3
        subst h1 h3
        clear hh htk hsz2
        by_cases hcr : c' = r
        · subst hcr
          obtain rfl : a = 0 := by omega
          have hKn2 : PcsAt w1 (some ⟨gs, 0, none⟩) (ps.drop c') := by rw [if_pos rfl] at hKn; exact hKn
          clear hKn
          first | (go_region_held3 (fun w' => w'.cell? ⟨g, off + k * 6, none⟩ = some (.int .i64 nd.op) ∧ w'.cell? ⟨g, off + k * 6 + 1, none⟩ = some (.int .i64 nd.val.kind) ∧ w'.cell? ⟨g, off + k * 6 + 2, none⟩ = some (.int .i64 nd.val.num) ∧ w'.cell? ⟨g, off + k * 6 + 3, none⟩ = some (str nd.val.text) ∧ w'.cell? ⟨g, off + k * 6 + 4, none⟩ = some (str nd.name) ∧ w'.cell? ⟨g, off + k * 6 + 5, none⟩ = some (.int .i64 nd.arity))
            (first | (refine HNd.out _ ?_; ((repeat (first | exact Below.refl _ _ | assumption | refine Below.drew ?_ | refine below_drewN ?_ _ | refine Below.alloc ?_ (by first | omega | (simp; done) | (simp; omega)) _ | refine Below.setCell ?_ (by first | omega | (simp; done) | (simp; omega)) _)); done)) | go_keep)
            ((first | (go_at_call 25; refine (HWr.out _ _ _ (hKn2.below (by (repeat (first | exact Below.refl _ _ | assumption | refine Below.drew ?_ | refine below_drewN ?_ _ | refine Below.alloc ?_ (by first | omega | (simp; done) | (simp; omega)) _ | refine Below.setCell ?_ (by first | omega | (simp; done) | (simp; omega)) _))))).mono ?_; rintro e w3 ⟨rfl, hb3⟩; have hb4 : Below wr.heap.size wr w3 := Below.trans (by (repeat (first | exact Below.refl _ _ | assumption | refine Below.drew ?_ | refine below_drewN ?_ _ | refine Below.alloc ?_ (by first | omega | (simp; done) | (simp; omega)) _ | refine Below.setCell ?_ (by first | omega | (simp; done) | (simp; omega)) _))) (hb3.mono (by simp; omega)); have hb5 := bel2 hb4 hbel; have hz4 := hb4.size; (first | (have hxb : w3.heap[w1.heap.size]? = some (.cells #[.string ⟨#[]⟩, .int .i64 0, .bool false] 55) := (hb3.block _ (by simp)).trans (heap_alloc_new w1 _); obtain ⟨x0, x1, x2⟩ := cells3 hxb; have xf := free6 hxb; obtain ⟨s0, s1, s2⟩ := set3 hxb; have hz5 := lt_of_heap hxb; clear hxb) | skip))))) | fail
          all_goals
            have hno := hb5
            clear m0 m1 m2 m3 m4 m5
            go_wp2
            first | (go_region_law ((refine step_append_grows (by rfl) _ _ _ (by rfl) 55 i0 _ 3 32 Tryz.underlying48 hi hz0 hz1 hz2 rfl (by omega) _ _ _ _ (by rfl) (by intro e; first | (cases e; done) | exact ⟨rfl, rfl⟩) HLo.out (HOL.out _ (by (repeat (first | exact Below.refl _ _ | assumption | refine Below.drew ?_ | refine below_drewN ?_ _ | refine Below.alloc ?_ (by first | omega | (simp; done) | (simp; omega)) _ | refine Below.setCell ?_ (by first | omega | (simp; done) | (simp; omega)) _)))) ⟨_, 0, none⟩ 1 1 [str rx, .int .i64 rl, .bool rn] (by rfl) rfl (by exact cells_3g (heap_new_at (by simp))) (by simp [Value.oneCell']) (by omega) (by unfold maxLen; omega) (by omega) ?_; intro v' w4 hown4 hgrow4))) | fail
            all_goals
              obtain ⟨A3, c3, rfl⟩ := own_form hown4
              have hb6 : Below w.heap.size w w4 := (show Below w.heap.size w _ from by (repeat (first | exact Below.refl _ _ | assumption | refine Below.drew ?_ | refine below_drewN ?_ _ | refine Below.alloc ?_ (by first | omega | (simp; done) | (simp; omega)) _ | refine Below.setCell ?_ (by first | omega | (simp; done) | (simp; omega)) _))).grown hgrow4 (by simp; omega) (fun k hk => by cases hk)
              have hown5 := own_low (b2 := w.heap.size) hown4 (by simp; omega)
              have HFin := hide (And.intro HST.out (And.intro hown5 HPush.out))
              clear hown4 hown5 hgrow4
              go_wp2
              exact ⟨⟨k + 1, _, _, A3, c3, rfl, by go_num, by omega, hide (by first | exact HFin.out.1 | (have := HFin.out.1; simpa using this)), by have := HFin.out.2.1; rw [HFin.out.2.2] at this; exact this, hb6⟩, by simp [intOf]; omega⟩
        · rw [if_neg hcr] at hKn
          have hKn2 : PcsAt w1 (some ⟨gs, r * 3, none⟩) (ps.drop r) := by simpa [Addr.add_lit] using hKn
          clear hKn
          first | (go_region_held3 (fun w' => w'.cell? ⟨g, off + k * 6, none⟩ = some (.int .i64 nd.op) ∧ w'.cell? ⟨g, off + k * 6 + 1, none⟩ = some (.int .i64 nd.val.kind) ∧ w'.cell? ⟨g, off + k * 6 + 2, none⟩ = some (.int .i64 nd.val.num) ∧ w'.cell? ⟨g, off + k * 6 + 3, none⟩ = some (str nd.val.text) ∧ w'.cell? ⟨g, off + k * 6 + 4, none⟩ = some (str nd.name) ∧ w'.cell? ⟨g, off + k * 6 + 5, none⟩ = some (.int .i64 nd.arity))
            (first | (refine HNd.out _ ?_; ((repeat (first | exact Below.refl _ _ | assumption | refine Below.drew ?_ | refine below_drewN ?_ _ | refine Below.alloc ?_ (by first | omega | (simp; done) | (simp; omega)) _ | refine Below.setCell ?_ (by first | omega | (simp; done) | (simp; omega)) _)); done)) | go_keep)
            ((first | (go_at_call 25; refine (HWr.out _ _ _ (hKn2.below (by (repeat (first | exact Below.refl _ _ | assumption | refine Below.drew ?_ | refine below_drewN ?_ _ | refine Below.alloc ?_ (by first | omega | (simp; done) | (simp; omega)) _ | refine Below.setCell ?_ (by first | omega | (simp; done) | (simp; omega)) _))))).mono ?_; rintro e w3 ⟨rfl, hb3⟩; have hb4 : Below wr.heap.size wr w3 := Below.trans (by (repeat (first | exact Below.refl _ _ | assumption | refine Below.drew ?_ | refine below_drewN ?_ _ | refine Below.alloc ?_ (by first | omega | (simp; done) | (simp; omega)) _ | refine Below.setCell ?_ (by first | omega | (simp; done) | (simp; omega)) _))) (hb3.mono (by simp; omega)); have hb5 := bel2 hb4 hbel; have hz4 := hb4.size; (first | (have hxb : w3.heap[w1.heap.size]? = some (.cells #[.string ⟨#[]⟩, .int .i64 0, .bool false] 55) := (hb3.block _ (by simp)).trans (heap_alloc_new w1 _); obtain ⟨x0, x1, x2⟩ := cells3 hxb; have xf := free6 hxb; obtain ⟨s0, s1, s2⟩ := set3 hxb; have hz5 := lt_of_heap hxb; clear hxb) | skip))))) | fail
          all_goals
            have hno := hb5
            clear m0 m1 m2 m3 m4 m5
            go_wp2
            first | (go_region_law ((refine step_append_grows (by rfl) _ _ _ (by rfl) 55 i0 _ 3 32 Tryz.underlying48 hi hz0 hz1 hz2 rfl (by omega) _ _ _ _ (by rfl) (by intro e; first | (cases e; done) | exact ⟨rfl, rfl⟩) HLo.out (HOL.out _ (by (repeat (first | exact Below.refl _ _ | assumption | refine Below.drew ?_ | refine below_drewN ?_ _ | refine Below.alloc ?_ (by first | omega | (simp; done) | (simp; omega)) _ | refine Below.setCell ?_ (by first | omega | (simp; done) | (simp; omega)) _)))) ⟨_, 0, none⟩ 1 1 [str rx, .int .i64 rl, .bool rn] (by rfl) rfl (by exact cells_3g (heap_new_at (by simp))) (by simp [Value.oneCell']) (by omega) (by unfold maxLen; omega) (by omega) ?_; intro v' w4 hown4 hgrow4))) | fail
            all_goals
              obtain ⟨A3, c3, rfl⟩ := own_form hown4
              have hb6 : Below w.heap.size w w4 := (show Below w.heap.size w _ from by (repeat (first | exact Below.refl _ _ | assumption | refine Below.drew ?_ | refine below_drewN ?_ _ | refine Below.alloc ?_ (by first | omega | (simp; done) | (simp; omega)) _ | refine Below.setCell ?_ (by first | omega | (simp; done) | (simp; omega)) _))).grown hgrow4 (by simp; omega) (fun k hk => by cases hk)
              have hown5 := own_low (b2 := w.heap.size) hown4 (by simp; omega)
              have HFin := hide (And.intro HST.out (And.intro hown5 HPush.out))
              clear hown4 hown5 hgrow4
              go_wp2
              exact ⟨⟨k + 1, _, _, A3, c3, rfl, by go_num, by omega, hide (by first | exact HFin.out.1 | (have := HFin.out.1; simpa using this)), by have := HFin.out.2.1; rw [HFin.out.2.2] at this; exact this, hb6⟩, by simp [intOf]; omega⟩
    · obtain rfl : k = es.length := by omega
      obtain ⟨rfl, p, rfl, hpt, hf⟩ := frel_end H8.out HR.out
      have HF := hide hf
      clear hf
      rcases hown.2 with ⟨hv, hn0⟩ | ⟨gs, cap, cur, hv, hgs, hh, hnc, hcapm, hsz2, htk⟩
      · omega
      · injection hv with e1 e2 e3
        subst e1 e3
        have x0 : wr.cell? ⟨gs, 0, none⟩ = some (str p.text) := (World.ownsRow.cellAt hown 0 (by omega)).trans rfl
        clear hh htk hsz2 hown
        go_wp2
        go_ret2
        exact ⟨by rw [HF.out]; rfl, hbel⟩
end Go.Proofs.YtlfedcbihbigoaaGreatDoor
