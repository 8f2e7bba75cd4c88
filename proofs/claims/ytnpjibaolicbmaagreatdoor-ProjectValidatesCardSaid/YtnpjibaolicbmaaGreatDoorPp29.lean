/- Parts of the proof. -/
import Derived.Test.YtnpjibaolicbmaaGreatDoorPp27
set_option linter.unusedVariables false
set_option linter.unusedSimpArgs false
set_option maxHeartbeats 4000000
namespace Go.Proofs.YtnpjibaolicbmaaGreatDoor
open Go.Proofs.Tryz
open Go.RowKit
set_option maxRecDepth 100000
theorem p_t (s : Stp) (hop : s.op = 11) : f_3 s := by
 intro a w hW hU hA ho hu
 have HX := a_2 (show opS s = f_A s from by unfold opS; simp [hop])
 have HSh := a_2 (show ∀ W, Below w.heap.size w W → Calls prog 207 #[.agg #[.int .i64 11, str s.src, .slice a.nA s.names.length a.nC, .slice a.oA s.others.length a.oC, .slice a.iA s.items.length a.iC, .slice a.cA s.cond.length a.cC]] W (fun e w' => e = .returned (.bool true) ∧ Below W.heap.size W w') from fun W hb => by
  refine j_l ?_; intro h
  rw [hu, hop] at h
  exact h)
 have HBx := a_2 (fun w1 (h : Below (w.heap.size + 1) (w.alloc (.cells #[.int .i64 11, str s.src, .slice a.nA s.names.length a.nC, .slice a.oA s.others.length a.oC, .slice a.iA s.items.length a.iC, .slice a.cA s.cond.length a.cC] 129)) w1) => show b_r w1 w.heap.size s a from d_l (t := 129) (by unfold Stp.cells; rw [hop]; exact h))
 refine k_8 ?_; intro HW HA HO HOp
 have hbox : Below (w.heap.size + 1) (w.alloc (.cells #[.int .i64 11, str s.src, .slice a.nA s.names.length a.nC, .slice a.oA s.others.length a.oC, .slice a.iA s.items.length a.iC, .slice a.cA s.cond.length a.cC] 129)) (w.alloc (.cells #[.int .i64 11, str s.src, .slice a.nA s.names.length a.nC, .slice a.oA s.others.length a.oC, .slice a.iA s.items.length a.iC, .slice a.cA s.cond.length a.cC] 129)) := b_ _ _
 show Calls prog 160 #[.agg #[.int .i64 s.op, str s.src, .slice a.nA s.names.length a.nC, .slice a.oA s.others.length a.oC, .slice a.iA s.items.length a.iC, .slice a.cA s.cond.length a.cC]] w _
 rw [hop]
 clear hW hU hA ho hu hop
 have HJ := a_2 (HX.out.trans (j_Y s))
 have H5 := a_2 (fun (w1 V : World) (hbx : b_r w1 w.heap.size s a) (hw1 : Below w.heap.size w w1) (hV : Below w1.heap.size w1 V) => k_a w.heap.size s a V (HW.out.below (a_9 hV hw1)) (hbx.below hV) (HA.out.below (a_9 hV hw1)) HO.out)
 have H6 := a_2 (fun (w1 V : World) (hbx : b_r w1 w.heap.size s a) (hw1 : Below w.heap.size w w1) (hV : Below w1.heap.size w1 V) => k_d w.heap.size s a V (HW.out.below (a_9 hV hw1)) (hbx.below hV) (HA.out.below (a_9 hV hw1)) HO.out HOp.out)
 have hl1 := HO.out.names
 have hl2 := HO.out.items
 clear HX
 generalize a_z s.names 0 = v1 at *
 generalize a_N s.items 0 true true false false (b_Y s.names) = v2 at *
 generalize opS s = r at *
 obtain ⟨u, hu⟩ : ∃ u : Int, u = if s.names.length + s.items.length = 0 then 2 else 0 := ⟨_, rfl⟩
 rw [← hu] at HJ
 have HU9 := a_2 hu
 clear hu
 go_enter func160, ntmps160
 go_wp2_with (go_at_call 207; refine (HSh.out _ (a_5 hbox)).mono ?_; rintro e w1 ⟨rfl, hb1⟩; have hcur := a_1 hbox s_ hb1; clear hbox; have hbx := HBx.out _ hcur; obtain ⟨hlw, c0, c1, c2, c3, c4, c5⟩ := HBx.out _ hcur; rw [HOp.out] at c0; have hw1 := a_5 hcur; have hwb : Below w1.heap.size w1 (w1.alloc (.cells #[.func (.func 208) #[] #[a_f w.heap.size]] 80)) := zX; have hff : (w1.alloc (.cells #[.func (.func 208) #[] #[a_f w.heap.size]] 80)).cell? ⟨w1.heap.size, 0, none⟩ = some (.func (.func 208) #[] #[a_f w.heap.size]) := (by simp [go_sem]); have hfl : w1.heap.size < (w1.alloc (.cells #[.func (.func 208) #[] #[a_f w.heap.size]] 80)).heap.size := s_)
 refine (c_d _ _ _).mono ?_
 rintro e w2 ⟨⟨lb, v9, rfl, hv9, ht⟩, hb2⟩
 have HT := a_2 ht
 have HVh := a_2 hv9
 clear ht hv9
 go_wp2_with fail
 have hV2 : Below w1.heap.size w1 w2 := a_9 hb2 hwb
 have hV : Below w1.heap.size w1 (w2.alloc (.cells #[.func (.func 221) #[] #[a_f w.heap.size], .func (.func 260) #[] lb, .func (.func 222) #[] #[a_f w.heap.size]] 80)) := hV2.alloc hV2.size _
 have T5 := H5.out w1 _ hbx hw1 hV
 have T6 := H6.out w1 _ hbx hw1 hV
 have TW := HT.out.below ((b_ w2.heap.size w2).alloc (l_ _) (.cells #[.func (.func 221) #[] #[a_f w.heap.size], .func (.func 260) #[] lb, .func (.func 222) #[] #[a_f w.heap.size]] 80))
 refine (b_X w2.heap.size 3 [⟨221, #[a_f w.heap.size], v1⟩, ⟨260, lb, v9⟩, ⟨222, #[a_f w.heap.size], v2⟩] _ s_ (show (3 : Nat) ≤ 10 from by decide) (fun j h => ?_) (fun j h => ?_)).mono ?_
 rotate_left
 ·have h9 : j < 3 := h
  match j, h9 with
  | 0, _ => exact T5
  | 1, _ => exact TW
  | 2, _ => exact T6
 rotate_left
 ·have h9 : j < 3 := h
  match j, h9 with
  | 0, _ => simp [go_sem]
  | 1, _ => simp [go_sem]
  | 2, _ => simp [go_sem]
 rintro e w3 ⟨rfl, hb3⟩
 go_wp2
 go_ret
 have HV9 : v9 = u := by
  rw [HVh.out, HU9.out]
  by_cases h9 : s.names.length + s.items.length = 0
  ·have h7 : s.names.length = 0 := by omega
   have h8 : s.items.length = 0 := by omega
   simp [h7, h8]
  ·have h7 : ¬ ((s.names.length : Int) + (s.items.length : Int) = 0) := by omega
   rw [if_neg h9]; simp only [beq_iff_eq, decide_eq_true_eq, h7, if_false]
 exact ⟨a_d (by rw [HJ.out, ← HV9, ← o_X]; rfl), a_9 hb3 (a_9 hV hw1)⟩
theorem p_b (s : Stp) (hop : s.op = 12) : f_3 s := by
 intro a w hW hU hA ho hu
 have HX := a_2 (show opS s = e_z s from by unfold opS; simp [hop])
 have HSh := a_2 (show ∀ W, Below w.heap.size w W → Calls prog 207 #[.agg #[.int .i64 12, str s.src, .slice a.nA s.names.length a.nC, .slice a.oA s.others.length a.oC, .slice a.iA s.items.length a.iC, .slice a.cA s.cond.length a.cC]] W (fun e w' => e = .returned (.bool true) ∧ Below W.heap.size W w') from fun W hb => by
  refine j_l ?_; intro h
  rw [hu, hop] at h
  exact h)
 have HBx := a_2 (fun w1 (h : Below (w.heap.size + 1) (w.alloc (.cells #[.int .i64 12, str s.src, .slice a.nA s.names.length a.nC, .slice a.oA s.others.length a.oC, .slice a.iA s.items.length a.iC, .slice a.cA s.cond.length a.cC] 129)) w1) => show b_r w1 w.heap.size s a from d_l (t := 129) (by unfold Stp.cells; rw [hop]; exact h))
 refine k_8 ?_; intro HW HA HO HOp
 have hbox : Below (w.heap.size + 1) (w.alloc (.cells #[.int .i64 12, str s.src, .slice a.nA s.names.length a.nC, .slice a.oA s.others.length a.oC, .slice a.iA s.items.length a.iC, .slice a.cA s.cond.length a.cC] 129)) (w.alloc (.cells #[.int .i64 12, str s.src, .slice a.nA s.names.length a.nC, .slice a.oA s.others.length a.oC, .slice a.iA s.items.length a.iC, .slice a.cA s.cond.length a.cC] 129)) := b_ _ _
 show Calls prog 160 #[.agg #[.int .i64 s.op, str s.src, .slice a.nA s.names.length a.nC, .slice a.oA s.others.length a.oC, .slice a.iA s.items.length a.iC, .slice a.cA s.cond.length a.cC]] w _
 rw [hop]
 clear hW hU hA ho hu hop
 have HJ := a_2 (HX.out.trans (show e_z s = a_c (a_z s.names 0) (a_c (a_z s.others 0) (a_N s.items 1 true true true false b_A)) from rfl))
 have H7 := a_2 (fun (w1 V : World) (hbx : b_r w1 w.heap.size s a) (hw1 : Below w.heap.size w w1) (hV : Below w1.heap.size w1 V) => k_j w.heap.size s a V (HW.out.below (a_9 hV hw1)) (hbx.below hV) (HA.out.below (a_9 hV hw1)) HO.out)
 have H8 := a_2 (fun (w1 V : World) (hbx : b_r w1 w.heap.size s a) (hw1 : Below w.heap.size w w1) (hV : Below w1.heap.size w1 V) => j_W w.heap.size s a V (HW.out.below (a_9 hV hw1)) (hbx.below hV) (HA.out.below (a_9 hV hw1)) HO.out)
 have H9 := a_2 (fun (w1 V : World) (hbx : b_r w1 w.heap.size s a) (hw1 : Below w.heap.size w w1) (hV : Below w1.heap.size w1 V) => k_6 w.heap.size s a V (HW.out.below (a_9 hV hw1)) (hbx.below hV) (HA.out.below (a_9 hV hw1)) HO.out HOp.out)
 clear HX
 generalize a_z s.names 0 = v1 at *
 generalize a_z s.others 0 = v2 at *
 generalize a_N s.items 1 true true true false b_A = v3 at *
 generalize opS s = r at *
 go_enter func160, ntmps160
 go_wp2_with (go_at_call 207; refine (HSh.out _ (a_5 hbox)).mono ?_; rintro e w1 ⟨rfl, hb1⟩; have hcur := a_1 hbox s_ hb1; clear hbox; have hbx := HBx.out _ hcur; obtain ⟨hlw, c0, c1, c2, c3, c4, c5⟩ := HBx.out _ hcur; rw [HOp.out] at c0; have hw1 := a_5 hcur; have hwb : Below w1.heap.size w1 (w1.alloc (.cells #[.func (.func 208) #[] #[a_f w.heap.size]] 80)) := zX; have hff : (w1.alloc (.cells #[.func (.func 208) #[] #[a_f w.heap.size]] 80)).cell? ⟨w1.heap.size, 0, none⟩ = some (.func (.func 208) #[] #[a_f w.heap.size]) := (by simp [go_sem]); have hfl : w1.heap.size < (w1.alloc (.cells #[.func (.func 208) #[] #[a_f w.heap.size]] 80)).heap.size := s_)
 have hV : Below w1.heap.size w1 ((w1.alloc (.cells #[.func (.func 208) #[] #[a_f w.heap.size]] 80)).alloc (.cells #[.func (.func 225) #[] #[a_f w.heap.size], .func (.func 226) #[] #[a_f w.heap.size], .func (.func 227) #[] #[a_f w.heap.size]] 80)) := zX
 have T7 := H7.out w1 _ hbx hw1 hV
 have T8 := H8.out w1 _ hbx hw1 hV
 have T9 := H9.out w1 _ hbx hw1 hV
 refine (b_X (w1.heap.size + 1) 3 [⟨225, #[a_f w.heap.size], v1⟩, ⟨226, #[a_f w.heap.size], v2⟩, ⟨227, #[a_f w.heap.size], v3⟩] _ s_ (show (3 : Nat) ≤ 10 from by decide) (fun j h => ?_) (fun j h => ?_)).mono ?_
 ·have h9 : j < 3 := h
  match j, h9 with
  | 0, _ => simp [go_sem]
  | 1, _ => simp [go_sem]
  | 2, _ => simp [go_sem]
 ·have h9 : j < 3 := h
  match j, h9 with
  | 0, _ => exact T7
  | 1, _ => exact T8
  | 2, _ => exact T9
 rintro e w2 ⟨rfl, hb2⟩
 go_wp2
 go_ret
 exact ⟨a_d (by rw [HJ.out, ← o_X]; rfl), a_9 hb2 (a_9 hV hw1)⟩
set_option maxRecDepth 512
theorem m_N (A : Option Addr) (l : List a_3) (c : Nat) (x : a_3) (W : World) (h : b_b W A l) (hl : l.length ≤ 8796093022208) : Calls prog 34 #[.slice A l.length c, str x] W fun e w' => e = .returned (.bool (decide (x ∈ l))) ∧ W = w' := by
 refine (d_4 A l c ⟨x.toArray⟩ W h hl).mono ?_
 rintro e w' ⟨rfl, rfl⟩
 refine ⟨a_a ?_, rfl⟩
 show l.contains x = _
 cases hc : l.contains x
 ·symm; rw [decide_eq_false_iff_not]; intro hm; rw [← List.contains_iff_mem, hc] at hm; cases hm
 ·symm; rw [decide_eq_true_eq]; exact List.contains_iff_mem.1 hc
theorem k_9 {w : World} {g off : Nat} {l : List a_3} (hg : g < w.heap.size) (hc : ∀ j (h : j < l.length), w.cell? ⟨g, off + j, none⟩ = some (str l[j])) (k : Nat) : b_b w (some ⟨g, off, none⟩) (l.take k) :=
 .inr ⟨g, off, rfl, hg, fun i hi => by
  have h1 : i < l.length := by rw [List.length_take] at hi; omega
  rw [hc i h1, List.getElem_take]⟩
set_option maxRecDepth 100000
theorem h_0 (C : Option Addr) (cs : List Col) (cc : Nat) (N : Option Addr) (names : List a_3) (nc : Nat) (w : World) (hC : b_1 w C cs) (hcl : cs.length ≤ 1000) (hN : b_b w N names) (hnl : names.length ≤ 8796093022208) (hcp : names.length ≤ nc) :
  Calls prog 178 #[.slice C cs.length cc, .slice N names.length nc] w fun e w' => k_Y cs names w' e ∧ Below w.heap.size w w' := by
 have HN := a_2 hN
 have HI := a_2 (fun s W (hb : Below w.heap.size w W) => d_W C cs cc s W (hC.below hb) o_)
 clear hC hN
 obtain ⟨i0, hi, hz0, hz1, hz2⟩ := info_parts Tryz.info_int
 go_enter func178, ntmps178
 go_wp2
 go_loopw [6, 7] (fun s i wr => ∃ (k : Nat) (A' : Option Addr) (c' : Nat), s = .slice A' k c' ∧ i = .int .i64 k ∧ k ≤ names.length ∧ Hid (∀ j, j < k → n_e cs names j = 0) ∧
   wr.ownsRow w.heap.size 3 1 (.slice A' k c') k (d_T ((names.take k).map (c_k cs))) ∧ Below w.heap.size w wr) (fun _ i _ => names.length - (intOf i).toNat)
 case atStart => exact ⟨0, none, 0, rfl, rfl, o_, fun j hj => absurd hj (Nat.not_lt_zero _), b_f _ _ _ _, b_ _ _⟩
 case round =>
  obtain ⟨k, A', c', rfl, rfl, hk, HZ, hown, hbel⟩ := hrel
  have hsz := hbel.size
  by_cases hlt : k < names.length
  ·rcases HN.out.below hbel with e | ⟨g, off, rfl, hg, hc⟩
   ·exact absurd hlt e_
   have c0 := hc k hlt; have HX := a_2 (fun W (hb : Below w.heap.size w W) => show Calls prog 179 #[.slice C cs.length cc, str names[k]] W (fun e w' => e = .returned (.int .i64 (c_k cs names[k])) ∧ W = w') from HI.out ⟨names[k].toArray⟩ W hb)
   have HH := a_2 (fun W (hb : Below wr.heap.size wr W) => by
    have := m_N (some ⟨g, off, none⟩) (names.take k) nc names[k] W ((k_9 hg hc k).below hb) (by rw [List.length_take]; omega); rw [List.length_take, Nat.min_eq_left (Nat.le_of_lt hlt)] at this
    exact this)
   refine r_K ?_; intro HT HF HK HS hkc; clear hc; generalize c_k cs names[k] = y at *; generalize names[k] = x at *
   by_cases hy : y < 0
   ·have HE := a_2 (HF.out 5 (by rw [HT.out, if_pos hy]) d_)
    refine _ag ?_; intro HE2; clear HT HF HK HS
    go_wp2_with (go_at_call 179; refine (HX.out _ hbel).mono ?_; rintro e w' ⟨rfl, rfl⟩)
    refine bodyPost_ret (v := .tuple #[.slice none 0 0, .int .i64 5]) (by simp [results, results178, go_sem]) rfl ⟨⟨none, 0, by rw [HE.out, HE2.out]; rfl, by rw [HE2.out]; exact .inl rfl⟩, hbel⟩
   rw [if_neg hy] at HT
   by_cases hin : x ∈ names.take k
   ·rw [if_pos hin] at HT
    have hinb : decide (x ∈ names.take k) = true := by simpa using hin
    rw [hinb] at HH; have HE := a_2 (HF.out 6 HT.out d_); refine _ag ?_; intro HE2; clear hin hinb HF HT HK HS
    go_wp2_with (go_at_call 179; refine (HX.out _ hbel).mono ?_; rintro e w' ⟨rfl, rfl⟩)
    go_region_with (go_at_call 34; refine (HH.out _ (by first | exact b_ _ _ | exact a_4 (b_ _ _) 1)).mono ?_; rintro e w' ⟨rfl, rfl⟩)
    all_goals (try go_wp2)
    all_goals
     refine bodyPost_ret (v := .tuple #[.slice none 0 0, .int .i64 6]) (by simp [results, results178, go_sem]) rfl ⟨⟨none, 0, by rw [HE.out, HE2.out]; rfl, by rw [HE2.out]; exact .inl rfl⟩, by first | exact hbel | exact a_4 hbel 1 | exact zX⟩
   ·rw [if_neg hin] at HT
    have hinb : decide (x ∈ names.take k) = false := by simpa using hin
    rw [hinb] at HH; have HE := a_2 (HK.out HT.out); have hb1 : Below wr.heap.size wr wr.drew := a_4 (b_ _ _) 1; have own1 := a_g hown hb1; have hb2 : Below w.heap.size w wr.drew := a_9 hb1 hbel; clear hin hinb HF HT HK
    go_wp2_with (go_at_call 179; refine (HX.out _ hbel).mono ?_; rintro e w' ⟨rfl, rfl⟩)
    go_region_with (go_at_call 34; refine (HH.out _ (by first | exact b_ _ _ | exact a_4 (b_ _ _) 1)).mono ?_; rintro e w' ⟨rfl, rfl⟩)
    all_goals
     go_wp2_with (at_builtin; refine wpList_append_own _ rfl _ _ 23 rfl w.heap.size 3 i0 _ 1 8 underlying23 hi hz0 hz1 hz2 rfl d_ _ _ _ rfl (own1.alloc _) ⟨wr.heap.size, 0, none⟩ 1 1 [.int .i64 y] rfl rfl (by exact b_3 (heap_alloc_new _ _)) c_ x_ o_ m_ ?_; intro v' w3 hown3 hgrow _)
     obtain ⟨A3, c3, rfl⟩ := a_j hown3; have hb3 : Below w.heap.size w w3 := (hb2.alloc hb2.size _).grown hgrow n_ (fun j hj => (own1.lt j hj).1); have HO := a_2 (show w3.ownsRow w.heap.size 3 1 (.slice A3 (k + 1) c3) (k + 1) (d_T ((names.take (k + 1)).map (c_k cs))) from by rw [HS.out]; simpa [d_T] using hown3); clear hown3 hgrow hown own1
     go_wp2
     exact ⟨⟨k + 1, A3, c3, rfl, t_, o_, HE, HO.out, hb3⟩, w_⟩
  ·obtain rfl : k = names.length := by omega
   refine r_M ?_; intro HE HE2 HO
   go_wp2
   refine bodyPost_ret (v := .tuple #[.slice A' names.length c', .int .i64 0]) (by simp [results, results178, go_sem]) rfl ⟨⟨A', c', by rw [HE.out, HE2.out]; simp, ?_⟩, hbel⟩; exact _aq
end Go.Proofs.YtnpjibaolicbmaaGreatDoor
