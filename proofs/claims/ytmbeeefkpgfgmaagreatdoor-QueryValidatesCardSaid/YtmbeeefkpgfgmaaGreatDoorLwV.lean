/- Contract: law11.QueryValidates. -/
import Derived.Test.YtmbeeefkpgfgmaaGreatDoorLwS
import Derived.Test.YtmbeeefkpgfgmaaGreatDoorPq46
import Derived.Test.YtmbeeefkpgfgmaaGreatDoorPq45
import Derived.Test.YtmbeeefkpgfgmaaGreatDoorPq44
import Derived.Test.YtmbeeefkpgfgmaaGreatDoorPq20
import Derived.Test.YtmbeeefkpgfgmaaGreatDoorPv01
import Derived.Test.YtmbeeefkpgfgmaaGreatDoorPq07
set_option linter.unusedVariables false
set_option linter.unusedSimpArgs false
namespace Go.Proofs.YtmbeeefkpgfgmaaGreatDoor
open Go.RowKit
set_option maxRecDepth 100000 in
set_option maxHeartbeats 16000000 in
theorem law11_QueryValidates_any (A : Option Addr) (ss : List Stp) (c : Nat) (s : Stp) (a : Adr) (L : Option Addr) (l : List Int) (lc : Nat) (n m : Int) (w : World) (hW : StrVar w 2 wordsS) (hU : UsedVar w) (hA : StpsAt w A ss) (hk : lightsB ss = true → StsOk ss) (hs : s.At w a) (ho : lightB s = true → s.ok) (hL : IntsAt w L l) (hlc : L = none → lc = 0) (hlb : l.length * 8 ≤ 140737488351232) :
    Calls Tryz.prog 3 #[.slice A ss.length c, s.agg a, .slice L l.length lc, .int .i64 n, .int .i64 m] w fun e w' => e = .returned (.bool true) ∧ Below w.heap.size w w' := by
  have HLt := hide (fun W (hb : Below w.heap.size w W) => law11_light_any A ss c W (hA.below hb))
  have HLs := hide (fun W (hb : Below w.heap.size w W) => law11_lightStep_any s a W (hs.below hb))
  have HP := hide (fun W (hb : Below w.heap.size w W) => law11_plain_any W (hW.below hb) (hU.below hb))
  have HSq := hide (fun (ho : s.ok) W (hb : Below w.heap.size w W) => query_ValidateStep_any s a W (hW.below hb) (hU.below hb) (hs.below hb) ho)
  have HSr := hide (fun (ho : s.ok) W (hb : Below w.heap.size w W) => ref11_ValidateStep_any s a W (hs.below hb) ho)
  have HXq := hide (fun (x : Stp) (b : Adr) W (hb : Below w.heap.size w W) (h : x.At W b) (hx : x.ok) => query_ValidateStep_any x b W (hW.below hb) (hU.below hb) h hx)
  have HXr := hide (fun (x : Stp) (b : Adr) W (hb : Below w.heap.size w W) (h : x.At W b) (hx : x.ok) => ref11_ValidateStep_any x b W h hx)
  have HVq := hide (fun (B : Option Addr) (xs : List Stp) (cx : Nat) W (hb : Below w.heap.size w W) (h : StpsAt W B xs) (hx : xs.length ≤ 1000000) (hx2 : StsOk xs) => query_Validate_any B xs cx W (hW.below hb) (hU.below hb) h hx hx2)
  have HVr := hide (fun (B : Option Addr) (xs : List Stp) (cx : Nat) W (hb : Below w.heap.size w W) (h : StpsAt W B xs) (hx : xs.length ≤ 1000000) (hx2 : StsOk xs) => ref11_Validate_any B xs cx W h hx hx2)
  have HA := hide hA
  have HK2 := hide hk
  have HO2 := hide ho
  obtain ⟨q, hq, HM⟩ := law11_made_any l n
  have HMd := hide (fun W (hb : Below w.heap.size w W) => HM L lc W (hL.below hb) hlc hlb)
  have hqp : 0 < q.length := by obtain ⟨x, r, e, _⟩ := hq.head; rw [e]; simp
  have hql := hq.len
  have HQk := hide hq.ok
  have hqi := hq.its
  clear hA hk hs ho hL hW hU HM hq
  generalize stepS s = es at *
  have hbox : Below (w.heap.size + 1) (w.alloc (.cells (s.cells a).toArray 27)) (w.alloc (.cells (s.cells a).toArray 27)) := Below.refl _ _
  simp only [Stp.cells] at hbox
  cases hlt : lightsB ss
  · rw [hlt] at HLt
    clear hlt
    go_enter Tryz.func3, Tryz.ntmps3
    go_wp2_with (first
      | (go_at_call 10; refine (HLt.out _ (box_below hbox)).mono ?_; rintro e w1 ⟨rfl, hb1⟩; have hbx := below_go hbox (by simp) hb1; clear hbox)
      | (go_at_call 12; refine (HP.out _ (box_below hbx)).mono ?_; rintro e w2 ⟨rfl, hb2⟩))
    go_ret
    exact ⟨rfl, bel2 hb2 (box_below hbx)⟩
  have HK := hide (HK2.out hlt)
  have hl1 : ss.length ≤ 30 := by have h9 := hlt; unfold lightsB at h9; simp at h9; exact h9.1
  rw [hlt] at HLt
  clear hlt
  cases hlt : lightB s
  · rw [hlt] at HLs
    clear hlt
    go_enter Tryz.func3, Tryz.ntmps3
    go_wp2_with (first
      | (go_at_call 10; refine (HLt.out _ (box_below hbox)).mono ?_; rintro e w1 ⟨rfl, hb1⟩; have hbx := below_go hbox (by simp) hb1; obtain ⟨m0, m1, m2, m3, m4, m5, hlw⟩ := box6 hbx; clear hbox)
      | (go_at_call 11; refine (HLs.out _ (box_below hbx)).mono ?_; rintro e w2 ⟨rfl, hb2⟩; have hby := below_go hbx (by simp) hb2; clear hbx)
      | (go_at_call 12; refine (HP.out _ (box_below hby)).mono ?_; rintro e w3 ⟨rfl, hb3⟩))
    go_ret
    exact ⟨rfl, bel2 hb3 (box_below hby)⟩
  have HOk2 := hide (HO2.out hlt)
  rw [hlt] at HLs
  clear hlt
  go_enter Tryz.func3, Tryz.ntmps3
  go_wp2_with (first
    | (go_at_call 10; refine (HLt.out _ (box_below hbox)).mono ?_; rintro e w1 ⟨rfl, hb1⟩; have hbx := below_go hbox (by simp) hb1; obtain ⟨m0, m1, m2, m3, m4, m5, hlw⟩ := box6 hbx; clear hbox)
    | (go_at_call 11; refine (HLs.out _ (box_below hbx)).mono ?_; rintro e w2 ⟨rfl, hb2⟩; have hby := below_go hbx (by simp) hb2; clear hbx m0 m1 m2 m3 m4 m5)
    | (go_at_call 13; refine (HMd.out _ (box_below hby)).mono ?_; rintro e w3 ⟨⟨Aq, cq, rfl, hrow⟩, hb3⟩; have hbz := below_go hby (by simp) hb3; have HRow := hide hrow; clear hrow hby)
    | (go_at_call 14; refine (law11_spoilt_any q HQk.out hqp hql hqi _ Aq cq m _ HRow.out).mono ?_; rintro e w4 ⟨⟨xs, X, cx, hxl, hxk, rfl, hxs⟩, hb4⟩; have hbq := below_go hbz (by simp) hb4; have HXs := hide hxs; have HXk := hide hxk; have HQs := hide (HRow.out.below hb4).at; clear hxs hxk hbz HRow))
  clear HLt HLs HMd hb1 hb2 hb3 hb4
  go_loopw [13] (fun i wr => ∃ k : Nat, k ≤ xs.length ∧ i = .int .i64 k ∧ Below w4.heap.size w4 wr) (fun i _ => xs.length - (intOf i).toNat)
  case atStart => exact ⟨0, by omega, rfl, Below.refl _ _⟩
  case round =>
    obtain ⟨k, hk, rfl, hbel⟩ := hrel
    have hbr := below_go hbq (by simp) hbel
    have hbw := box_below hbr
    by_cases hlt : k < xs.length
    · rcases HXs.out.below hbel with e | ⟨gx, ox, rfl, hgx, hcx⟩
      · exact absurd hlt (by rw [e]; simp)
      obtain ⟨b, hat, c0, c1, c2, c3, c4, c5⟩ := hcx k hlt
      have HAt := hide hat
      have HOk := hide (HXk.out _ (List.getElem_mem hlt))
      clear hcx hat
      generalize xs[k] = x at *
      have HS := hide (fun w' (hb : Below wr.heap.size wr w') => show w'.cell? ⟨gx, ox + k * 6, none⟩ = some (.int .i64 x.op) ∧ w'.cell? ⟨gx, ox + k * 6 + 1, none⟩ = some (str x.src) ∧ w'.cell? ⟨gx, ox + k * 6 + 2, none⟩ = some (.slice b.nA x.names.length b.nC) ∧ w'.cell? ⟨gx, ox + k * 6 + 3, none⟩ = some (.slice b.oA x.others.length b.oC) ∧ w'.cell? ⟨gx, ox + k * 6 + 4, none⟩ = some (.slice b.iA x.items.length b.iC) ∧ w'.cell? ⟨gx, ox + k * 6 + 5, none⟩ = some (.slice b.cA x.cond.length b.cC) from ⟨(hb.cell (p := ⟨gx, _, none⟩) hgx).trans c0, (hb.cell (p := ⟨gx, _, none⟩) hgx).trans c1, (hb.cell (p := ⟨gx, _, none⟩) hgx).trans c2, (hb.cell (p := ⟨gx, _, none⟩) hgx).trans c3, (hb.cell (p := ⟨gx, _, none⟩) hgx).trans c4, (hb.cell (p := ⟨gx, _, none⟩) hgx).trans c5⟩)
      have HCq := hide (fun W (hb : Below wr.heap.size wr W) => HXq.out x b W (bel2 hb hbw) (HAt.out.below hb) HOk.out)
      have HCr := hide (fun W (hb : Below wr.heap.size wr W) => HXr.out x b W (bel2 hb hbw) (HAt.out.below hb) HOk.out)
      generalize stepS x = ex at *
      clear c0 c1 c2 c3 c4 c5
      go_wp2
      have kk : Below wr.heap.size wr wr.drew := Below.drew (Below.refl _ _)
      refine wp_region_held_drew (S := (fun w' => w'.cell? ⟨gx, ox + k * 6, none⟩ = some (.int .i64 x.op) ∧ w'.cell? ⟨gx, ox + k * 6 + 1, none⟩ = some (str x.src) ∧ w'.cell? ⟨gx, ox + k * 6 + 2, none⟩ = some (.slice b.nA x.names.length b.nC) ∧ w'.cell? ⟨gx, ox + k * 6 + 3, none⟩ = some (.slice b.oA x.others.length b.oC) ∧ w'.cell? ⟨gx, ox + k * 6 + 4, none⟩ = some (.slice b.iA x.items.length b.iC) ∧ w'.cell? ⟨gx, ox + k * 6 + 5, none⟩ = some (.slice b.cA x.cond.length b.cC))) (by kernel_rfl) (by (try dsimp only); exact HS.out _ kk) (fun hHeld => ?_)
      generalize wr.drew = W0 at *
      refine zT 0 ?_; refine zT 1 ?_; refine zT 2 ?_; refine zT 3 ?_; refine zT 5 ?_; refine zT 6 ?_; refine zT 7 ?_; refine zT 8 ?_
      refine zR 4 (fun K hK => ?_)
      go_simp
      go_wp2_with (go_at_call 15; refine (HCq.out _ kk).mono ?_; rintro e v1 ⟨rfl, hb1⟩; replace kk := bel2 hb1 kk)
      refine zB hK (HS.out _ kk) (fun hHeld => ?_)
      clear hK K
      refine zR 9 (fun K hK => ?_)
      go_simp
      go_wp2_with (go_at_call 16; refine (HCr.out _ kk).mono ?_; rintro e v1 ⟨rfl, hb1⟩; replace kk := bel2 hb1 kk)
      refine zB hK (HS.out _ kk) (fun hHeld => ?_)
      clear hK K
      refine zT 10 ?_
      refine wpAnyH_done (by kernel_rfl) ?_ _
      go_wp2
      exact ⟨⟨k + 1, by omega, by go_num, bel2 kk hbel⟩, by simp [intOf]; omega⟩
    · obtain rfl : k = xs.length := by omega
      obtain ⟨m0, m1, m2, m3, m4, m5, hlw⟩ := box6 hbr
      have HS := hide (fun w' (hb : Below wr.heap.size wr w') => show w'.cell? ⟨w.heap.size, 0, none⟩ = some (.int .i64 s.op) ∧ w'.cell? ⟨w.heap.size, 1, none⟩ = some (str s.src) ∧ w'.cell? ⟨w.heap.size, 2, none⟩ = some (.slice a.nA s.names.length a.nC) ∧ w'.cell? ⟨w.heap.size, 3, none⟩ = some (.slice a.oA s.others.length a.oC) ∧ w'.cell? ⟨w.heap.size, 4, none⟩ = some (.slice a.iA s.items.length a.iC) ∧ w'.cell? ⟨w.heap.size, 5, none⟩ = some (.slice a.cA s.cond.length a.cC) from ⟨(hb.cell (p := ⟨w.heap.size, _, none⟩) hlw).trans m0, (hb.cell (p := ⟨w.heap.size, _, none⟩) hlw).trans m1, (hb.cell (p := ⟨w.heap.size, _, none⟩) hlw).trans m2, (hb.cell (p := ⟨w.heap.size, _, none⟩) hlw).trans m3, (hb.cell (p := ⟨w.heap.size, _, none⟩) hlw).trans m4, (hb.cell (p := ⟨w.heap.size, _, none⟩) hlw).trans m5⟩)
      have HSqw := hide (fun W (hb : Below wr.heap.size wr W) => HSq.out HOk2.out W (bel2 hb hbw))
      have HSrw := hide (fun W (hb : Below wr.heap.size wr W) => HSr.out HOk2.out W (bel2 hb hbw))
      have HA1 := hide (fun W (hb : Below wr.heap.size wr W) => HVq.out A ss c W (bel2 hb hbw) ((HA.out.below hbw).below hb) (by omega) HK.out)
      have HB1 := hide (fun W (hb : Below wr.heap.size wr W) => HVr.out A ss c W (bel2 hb hbw) ((HA.out.below hbw).below hb) (by omega) HK.out)
      have HA2 := hide (fun W (hb : Below wr.heap.size wr W) => HVq.out Aq q cq W (bel2 hb hbw) ((HQs.out.below hbel).below hb) (by omega) HQk.out)
      have HB2 := hide (fun W (hb : Below wr.heap.size wr W) => HVr.out Aq q cq W (bel2 hb hbw) ((HQs.out.below hbel).below hb) (by omega) HQk.out)
      have HA3 := hide (fun W (hb : Below wr.heap.size wr W) => HVq.out X xs cx W (bel2 hb hbw) ((HXs.out.below hbel).below hb) (by omega) HXk.out)
      have HB3 := hide (fun W (hb : Below wr.heap.size wr W) => HVr.out X xs cx W (bel2 hb hbw) ((HXs.out.below hbel).below hb) (by omega) HXk.out)
      have HPw := hide (fun W (hb : Below wr.heap.size wr W) => HP.out W (bel2 hb hbw))
      generalize queryS ss = e1 at *
      generalize queryS q = e2 at *
      generalize queryS xs = e3 at *
      clear m0 m1 m2 m3 m4 m5
      go_wp2
      have kk : Below wr.heap.size wr wr.drew := Below.drew (Below.refl _ _)
      refine wp_region_held_drew (S := (fun w' => w'.cell? ⟨w.heap.size, 0, none⟩ = some (.int .i64 s.op) ∧ w'.cell? ⟨w.heap.size, 1, none⟩ = some (str s.src) ∧ w'.cell? ⟨w.heap.size, 2, none⟩ = some (.slice a.nA s.names.length a.nC) ∧ w'.cell? ⟨w.heap.size, 3, none⟩ = some (.slice a.oA s.others.length a.oC) ∧ w'.cell? ⟨w.heap.size, 4, none⟩ = some (.slice a.iA s.items.length a.iC) ∧ w'.cell? ⟨w.heap.size, 5, none⟩ = some (.slice a.cA s.cond.length a.cC))) (by kernel_rfl) (by (try dsimp only); exact HS.out _ kk) (fun hHeld => ?_)
      generalize wr.drew = W0 at *
      refine zT 0 ?_; refine zT 2 ?_
      refine zR 1 (fun K hK => ?_)
      go_simp
      go_wp2_with (go_at_call 15; refine (HSqw.out _ kk).mono ?_; rintro e v1 ⟨rfl, hb1⟩; replace kk := bel2 hb1 kk)
      refine zB hK (HS.out _ kk) (fun hHeld => ?_)
      clear hK K
      refine zR 3 (fun K hK => ?_)
      go_simp
      go_wp2_with (go_at_call 16; refine (HSrw.out _ kk).mono ?_; rintro e v1 ⟨rfl, hb1⟩; replace kk := bel2 hb1 kk)
      refine zB hK (HS.out _ kk) (fun hHeld => ?_)
      clear hK K
      (refine zT 4 ?_; refine zT 5 ?_; refine zT 6 ?_; refine zT 8 ?_)
      refine zR 7 (fun K hK => ?_)
      go_simp
      go_wp2_with (go_at_call 17; refine (HA1.out _ kk).mono ?_; rintro e v1 ⟨rfl, hb1⟩; replace kk := bel2 hb1 kk)
      refine zB hK (HS.out _ kk) (fun hHeld => ?_)
      clear hK K
      refine zR 9 (fun K hK => ?_)
      go_simp
      go_wp2_with (go_at_call 18; refine (HB1.out _ kk).mono ?_; rintro e v1 ⟨rfl, hb1⟩; replace kk := bel2 hb1 kk)
      refine zB hK (HS.out _ kk) (fun hHeld => ?_)
      clear hK K
      (refine zT 10 ?_; refine zT 11 ?_; refine zT 12 ?_; refine zT 13 ?_; refine zT 15 ?_)
      refine zR 14 (fun K hK => ?_)
      go_simp
      go_wp2_with (go_at_call 17; refine (HA2.out _ kk).mono ?_; rintro e v1 ⟨rfl, hb1⟩; replace kk := bel2 hb1 kk)
      refine zB hK (HS.out _ kk) (fun hHeld => ?_)
      clear hK K
      refine zR 16 (fun K hK => ?_)
      go_simp
      go_wp2_with (go_at_call 18; refine (HB2.out _ kk).mono ?_; rintro e v1 ⟨rfl, hb1⟩; replace kk := bel2 hb1 kk)
      refine zB hK (HS.out _ kk) (fun hHeld => ?_)
      clear hK K
      (refine zT 17 ?_; refine zT 18 ?_; refine zT 19 ?_; refine zT 20 ?_; refine zT 22 ?_)
      refine zR 21 (fun K hK => ?_)
      go_simp
      go_wp2_with (go_at_call 17; refine (HA3.out _ kk).mono ?_; rintro e v1 ⟨rfl, hb1⟩; replace kk := bel2 hb1 kk)
      refine zB hK (HS.out _ kk) (fun hHeld => ?_)
      clear hK K
      refine zR 23 (fun K hK => ?_)
      go_simp
      go_wp2_with (go_at_call 18; refine (HB3.out _ kk).mono ?_; rintro e v1 ⟨rfl, hb1⟩; replace kk := bel2 hb1 kk)
      refine zB hK (HS.out _ kk) (fun hHeld => ?_)
      clear hK K
      (refine zT 24 ?_; refine zT 25 ?_; refine zT 26 ?_)
      refine zR 27 (fun K hK => ?_)
      go_simp
      go_wp2_with (go_at_call 12; refine (HPw.out _ kk).mono ?_; rintro e v1 ⟨rfl, hb1⟩; replace kk := bel2 hb1 kk)
      refine zB hK (HS.out _ kk) (fun hHeld => ?_)
      clear hK K
      refine zT 28 ?_
      refine zR 29 (fun K hK => ?_)
      go_simp
      refine zB hK (HS.out _ kk) (fun hHeld => ?_)
      clear hK K
      refine wpAnyH_done (by kernel_rfl) ?_ _
      go_wp2
      go_ret
      exact ⟨rfl, bel2 kk hbw⟩
end Go.Proofs.YtmbeeefkpgfgmaaGreatDoor

