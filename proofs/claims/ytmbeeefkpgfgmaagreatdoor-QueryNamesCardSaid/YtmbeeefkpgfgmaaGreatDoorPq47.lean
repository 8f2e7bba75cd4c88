/- Contract: law11.QueryNames. -/
import Derived.Test.YtmbeeefkpgfgmaaGreatDoorPq32
import Derived.Test.YtmbeeefkpgfgmaaGreatDoorPq46
import Derived.Test.YtmbeeefkpgfgmaaGreatDoorPq45
import Derived.Test.YtmbeeefkpgfgmaaGreatDoorPq07
set_option linter.unusedVariables false
set_option linter.unusedSimpArgs false
namespace Go.Proofs.YtmbeeefkpgfgmaaGreatDoor
open Go.RowKit
theorem light_len {ss : List Stp} (h : lightsB ss = true) : ss.length ≤ 30 := by
  unfold lightsB at h
  simp at h
  exact h.1
theorem once_take {l : List Bytes} (h : l.Nodup) (k : Nat) (hk : k < l.length) : ¬ l[k] ∈ l.take k := by
  intro hm
  obtain ⟨j, hj, e⟩ := List.mem_iff_getElem.1 hm
  rw [List.length_take] at hj
  rw [List.getElem_take] at e
  have := (List.pairwise_iff_getElem.1 h) j k (by omega) hk (by omega)
  exact this e
set_option maxRecDepth 100000 in
set_option maxHeartbeats 8000000 in
theorem law11_QueryNames_any (A : Option Addr) (ss : List Stp) (c : Nat) (L : Option Addr) (l : List Int) (lc : Nat) (n : Int) (w : World) (hW : StrVar w 2 wordsS) (hU : UsedVar w) (hA : StpsAt w A ss) (hL : IntsAt w L l) (hlc : L = none → lc = 0) (hlb : l.length * 8 ≤ 140737488351232) :
    Calls Tryz.prog 4 #[.slice A ss.length c, .slice L l.length lc, .int .i64 n] w fun e w' => e = .returned (.bool true) ∧ Below w.heap.size w w' := by
  have HLt := hide (law11_light_any A ss c w hA)
  have HP := hide (fun W (hb : Below w.heap.size w W) => law11_plain_any W (hW.below hb) (hU.below hb))
  cases hlt : lightsB ss
  · rw [hlt] at HLt
    clear hA hL hW hU hlt
    go_enter Tryz.func4, Tryz.ntmps4
    go_wp2_with (first
      | (go_at_call 10; refine (HLt.out).mono ?_; rintro e w1 ⟨rfl, hb1⟩)
      | (go_at_call 12; refine (HP.out _ hb1).mono ?_; rintro e w2 ⟨rfl, hb2⟩))
    go_ret
    exact ⟨rfl, bel2 hb2 hb1⟩
  have hl30 := light_len hlt
  rw [hlt] at HLt
  obtain ⟨q, hq, HM⟩ := law11_made_any l n
  have HMd := hide (fun W (hb : Below w.heap.size w W) => HM L lc W (hL.below hb) hlc hlb)
  obtain ⟨s0, rest, hqe, hop0, hsrc0⟩ := hq.head
  obtain ⟨rl, hrl⟩ := reads_head (ss := rest) hop0 hsrc0
  have hrd : readsS q = s0.src :: rl := by rw [hqe]; exact hrl
  have hqlen := hq.len
  have hxl : (readsS q).length ≤ 60 := by
    have h := reads_len (ss := q) q.length (Nat.le_refl _)
    rw [List.take_length] at h
    omega
  have hrs : (readsS ss).length ≤ 30 := by
    have h := reads_len (ss := ss) ss.length (Nat.le_refl _)
    rw [List.take_length] at h
    omega
  have HOnce := hide (fun k hk => once_take (reads_once q) k hk)
  have HRr := hide (fun W (hb : Below w.heap.size w W) => query_Reads_any A ss c W (hU.below hb) (hA.below hb) (by omega))
  have HRf := hide (fun W (hb : Below w.heap.size w W) => ref11_Reads_any A ss c W (hA.below hb) (by omega))
  have HU := hide hU
  have HSt := hide (fun (A B : Option Addr) (la : List Bytes) (ca cb : Nat) (W : World) (h1 : StrsAt W A la) (h2 : StrsAt W B la) (hl : la.length ≤ 60) => show Calls Tryz.prog 21 #[.slice A la.length ca, .slice B la.length cb] W (fun e w' => e = .returned (.bool true) ∧ Below W.heap.size W w') from by
    have h := ref5_Strings_any A B la la ca cb W h1 h2 (by omega) (by omega)
    rw [show decide (la = la) = true from by simp] at h
    exact h)
  have hqn : q ≠ [] := by rw [hqe]; simp
  have HQ0 := hide (show ∃ h : 0 < q.length, q[0].src = s0.src from ⟨by rw [hqe]; simp, by simp only [hqe]; rfl⟩)
  clear hA hL hW hU hlt HM hq hrl hqe hop0
  generalize readsS ss = rs at *
  generalize hxs9 : readsS q = xs at *
  have HXE := hide hxs9
  clear hxs9
  generalize hsv : s0.src = src at *
  clear hsv hsrc0
  have hxs : xs.length ≤ 60 := hxl
  have hrs60 : rs.length ≤ 60 := by omega
  have hx0 : 0 < xs.length := by rw [hrd]; simp
  have HX0 := hide (show xs[0]? = some src from by rw [hrd]; rfl)
  have hxi : (0 : Int) < (xs.length : Int) := by omega
  have hqi : (0 : Int) < (q.length : Int) := by
    have := List.length_pos_iff.2 hqn
    omega
  clear hrd hqn
  have h00 := Below.refl w.heap.size w
  go_enter Tryz.func4, Tryz.ntmps4
  go_wp2_with (first
    | (go_at_call 10; refine (HLt.out).mono ?_; rintro e w1 ⟨rfl, hb1⟩)
    | (go_at_call 13; refine (HMd.out _ hb1).mono ?_; rintro e w2 ⟨⟨Aq, cq, rfl, hrow⟩, hb2⟩; have HRow := hide hrow; have hb2w := bel2 hb2 hb1; clear hrow)
    | (go_at_call 19; refine (query_Reads_any Aq q cq _ (HU.out.below hb2w) HRow.out.at (by omega)).mono ?_; rintro e w3 ⟨hown, hb3⟩; rw [HXE.out] at hown; obtain ⟨Ax, cx, rfl, ho⟩ := hown; have HXs := hide (StrsAt_of_own ho); have hxc : xs.length ≤ cx := (own_cap ho).1; clear ho))
  have hb3w := bel2 hb3 hb2w
  have HQ3 := hide (HRow.out.below hb3).at
  clear HLt HMd hb1 hb2 hb2w hb3 HRow h00
  go_loopw [9] (fun i wr => ∃ k : Nat, k ≤ xs.length ∧ i = .int .i64 k ∧ Below w3.heap.size w3 wr) (fun i _ => xs.length - (intOf i).toNat)
  case atStart => exact ⟨0, by omega, rfl, Below.refl _ _⟩
  case round =>
    obtain ⟨k, hk, rfl, hbel⟩ := hrel
    have hbw := bel2 hbel hb3w
    by_cases hlt : k < xs.length
    · have HH := hide (fun W (hb : Below wr.heap.size wr W) => show Calls Tryz.prog 20 #[.slice Ax k cx, str xs[k]] W (fun e w' => e = .returned (.bool false) ∧ W = w') from by
        rcases (HXs.out.below hbel).below hb with e | ⟨g, off, rfl, hg, hc⟩
        · exact absurd hlt (by rw [e]; simp)
        have h := has_str (some ⟨g, off, none⟩) (xs.take k) cx xs[k] W (strs_take hg hc k) (by rw [List.length_take]; omega)
        rw [List.length_take, Nat.min_eq_left (Nat.le_of_lt hlt)] at h
        rw [show decide (xs[k] ∈ xs.take k) = false from by simpa using HOnce.out k hlt] at h
        exact h)
      rcases HXs.out.below hbel with e | ⟨gx, ox, rfl, hgx, hcx⟩
      · exact absurd hlt (by rw [e]; simp)
      have x1 := hcx k hlt
      have hkc : k ≤ cx := by omega
      clear hcx
      generalize xs[k] = y at *
      go_wp2
      go_region_with (go_at_call 20; refine (HH.out _ (by first | exact Below.refl _ _ | exact below_drewN (Below.refl _ _) 1 | exact zX)).mono ?_; rintro e w' ⟨rfl, rfl⟩)
      all_goals (try go_wp2)
      all_goals exact ⟨⟨k + 1, by omega, by go_num, by first | exact below_drewN hbel 1 | exact hbel | exact zX⟩, by simp [intOf]; omega⟩
    · obtain rfl : k = xs.length := by omega
      have hR1 := HRr.out wr hbw
      have HR1 := hide (fun W (hb : Below wr.heap.size wr W) => HRr.out W (bel2 hb hbw))
      have HR2 := hide (fun W (hb : Below wr.heap.size wr W) => HRf.out W (bel2 hb hbw))
      have HR3 := hide (fun W (hb : Below wr.heap.size wr W) => show Calls Tryz.prog 22 #[.slice Aq q.length cq] W (fun e w' => OwnStrs W w' xs e ∧ Below W.heap.size W w') from by
        have h := ref11_Reads_any Aq q cq W ((HQ3.out.below hbel).below hb) (by omega)
        rw [HXE.out] at h
        exact h)
      obtain ⟨hq0, hqs⟩ := HQ0.out
      have HXw := hide (HXs.out.below hbel)
      rcases HXs.out.below hbel with e | ⟨gx, ox, rfl, hgx, hcx⟩
      · exact absurd hx0 (by rw [e]; simp)
      rcases HQ3.out.below hbel with e | ⟨gq, oq, rfl, hgq, hcq⟩
      · exact absurd hq0 (by rw [e]; simp)
      have x0 : wr.cell? ⟨gx, ox, none⟩ = some (str src) := by
        have h := hcx 0 hx0
        have e : xs[0] = src := by
          have h9 := HX0.out
          rw [List.getElem?_eq_getElem hx0] at h9
          injection h9
        rw [e] at h
        simpa using h
      have q1 : wr.cell? ⟨gq, oq + 1, none⟩ = some (str src) := by
        obtain ⟨a, _, _, h, _⟩ := hcq 0 hq0
        rw [hqs] at h
        simpa using h
      clear hcx hcq hR1 HXs
      have HXs := hide HXw.out
      clear HXw
      go_wp2
      have bD : Below wr.heap.size wr wr.drew := Below.drew (Below.refl _ _)
      have HS := hide (fun w' (hb : Below wr.heap.size wr w') => show w'.cell? ⟨gx, ox, none⟩ = some (str src) ∧ w'.cell? ⟨gq, oq + 1, none⟩ = some (str src) ∧ Below wr.heap.size wr w' from ⟨(hb.cell (p := ⟨gx, ox, none⟩) hgx).trans x0, (hb.cell (p := ⟨gq, oq + 1, none⟩) hgq).trans q1, hb⟩)
      refine wp_region_held_drew (S := (fun w' => w'.cell? ⟨gx, ox, none⟩ = some (str src) ∧ w'.cell? ⟨gq, oq + 1, none⟩ = some (str src) ∧ Below wr.heap.size wr w')) (by kernel_rfl) (by (try dsimp only); exact HS.out _ bD) (fun hHeld => ?_)
      generalize wr.drew = W0 at *
      refine zT 0 ?_; refine zT 2 ?_
      refine zR 1 (fun K hK => ?_)
      go_simp
      go_wp2_with (go_at_call 19; refine (HR1.out _ bD).mono ?_; rintro e v1 ⟨⟨A1, c1, rfl, ho1⟩, hb1⟩; have k1 := bel2 hb1 bD; have HO1 := hide (StrsAt_of_own ho1); clear ho1)
      refine zB hK (HS.out _ k1) (fun hHeld => ?_)
      clear hK K
      refine zR 3 (fun K hK => ?_)
      go_simp
      go_wp2_with (go_at_call 22; refine (HR2.out _ k1).mono ?_; rintro e v2 ⟨⟨A2, c2, rfl, ho2⟩, hb2⟩; have k2 := bel2 hb2 k1; have HO2 := hide (StrsAt_of_own ho2); clear ho2)
      refine zB hK (HS.out _ k2) (fun hHeld => ?_)
      clear hK K
      refine zR 4 (fun K hK => ?_)
      go_simp
      go_wp2_with (go_at_call 21; refine (HSt.out A1 A2 rs c1 c2 v2 (HO1.out.below hb2) HO2.out hrs60).mono ?_; rintro e v3 ⟨rfl, hb3⟩; have k3 := bel2 hb3 k2)
      refine zB hK (HS.out _ k3) (fun hHeld => ?_)
      clear hK K
      refine zT 5 ?_; refine zT 6 ?_; refine zT 7 ?_
      refine zR 8 (fun K hK => ?_)
      go_simp
      go_wp2_with (go_at_call 22; refine (HR3.out _ k3).mono ?_; rintro e v4 ⟨⟨A4, c4, rfl, ho4⟩, hb4⟩; have k4 := bel2 hb4 k3; have HO4 := hide (StrsAt_of_own ho4); clear ho4)
      refine zB hK (HS.out _ k4) (fun hHeld => ?_)
      clear hK K
      refine zR 9 (fun K hK => ?_)
      go_simp
      go_wp2_with (go_at_call 21; refine (HSt.out _ A4 xs cx c4 v4 (HXs.out.below k4) HO4.out hxs).mono ?_; rintro e v5 ⟨rfl, hb5⟩; have k5 := bel2 hb5 k4)
      refine zB hK (HS.out _ k5) (fun hHeld => ?_)
      clear hK K
      refine zT 10 ?_; refine zT 11 ?_; refine zT 12 ?_; refine zT 13 ?_; refine zT 14 ?_; refine zT 15 ?_; refine zT 16 ?_; refine zT 17 ?_; refine zT 18 ?_; refine zT 19 ?_; refine zT 20 ?_; refine zT 21 ?_; refine zT 22 ?_; refine zT 23 ?_; refine zT 24 ?_; refine zT 25 ?_; refine zT 26 ?_
      refine zR 27 (fun K hK => ?_)
      go_simp
      go_wp2_with (go_at_call 12; refine (HP.out _ (bel2 k5 hbw)).mono ?_; rintro e v6 ⟨rfl, hb6⟩; have k6 := bel2 hb6 k5)
      refine zB hK (HS.out _ k6) (fun hHeld => ?_)
      clear hK K
      refine zT 28 ?_
      refine zR 29 (fun K hK => ?_)
      go_simp
      refine zB hK (by (try dsimp only); assumption) (fun hHeld => ?_)
      clear hK K
      refine wpAnyH_done (by kernel_rfl) ?_ _
      go_wp2
      go_ret
      exact ⟨rfl, bel2 k6 hbw⟩
end Go.Proofs.YtmbeeefkpgfgmaaGreatDoor
