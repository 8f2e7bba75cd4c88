/- Parts of the proof. -/
import Derived.Test.YtnpjibaolicbmaaGreatDoorPp35
import Derived.Test.YtnpjibaolicbmaaGreatDoorPp31
import Derived.Test.YtnpjibaolicbmaaGreatDoorPp25
set_option linter.unusedVariables false
set_option linter.unusedSimpArgs false
set_option maxHeartbeats 4000000
namespace Go.Proofs.YtnpjibaolicbmaaGreatDoor
open Go.Proofs.Tryz
open Go.RowKit
theorem m_b (s : a_3) (S1 : Option Addr) (m1 c1 : Nat) (S2 : Option Addr) (m2 c2 : Nat) (t3 : a_3) (t4 : a_3) (i5 : Int) (i6 : Int) (w : World) : Calls prog 43 #[.agg #[str s, .slice S1 m1 c1, .slice S2 m2 c2, str t3, str t4, .int .i64 i5, .int .i64 i6]] w fun e w' => e = .returned (str s) ∧ Below w.heap.size w w' := by
 go_enter func43, ntmps43
 go_wp2
 exact k_t
set_option maxRecDepth 100000
theorem n_Q (A : Option Addr) (xs : List Srx) (c b n : Nat) (before : List a_3) (w0 w : World) (hS : b_d w b n before) (hn : n ≤ 1000) (hb0 : Below w0.heap.size w0 w) (hbb : w0.heap.size ≤ b) (hV : PjV w0) (hA : a_l 7 h_f w0 A xs)
  (hl : xs.length ≤ 8796093022208) (hok : ∀ z ∈ xs, z.ok) :
  Calls prog 42 #[.slice A xs.length c, .map (some b), .func (.func 43) #[] #[], .func (.func 36) #[] #[], .func (.func 44) #[] #[]] w fun e w' =>
   e = .returned (.int .i64 (a_A before (xs.map Srx.name) a_n (a_X xs c_U))) ∧ w.grownBy w' (some b) ∧ (a_A before (xs.map Srx.name) a_n (a_X xs c_U) = 0 → b_d w' b (n + xs.length) (before ++ (xs.map Srx.name))) := by
 by_cases h64 : 64 < xs.length
 ·have HE := a_2 (show a_A before (xs.map Srx.name) a_n (a_X xs c_U) = 2 from by unfold a_A; rw [if_pos (by simpa using h64)])
  go_enter func42, ntmps42
  go_wp2
  exact o_s
 have HE := a_2 (show a_A before (xs.map Srx.name) a_n (a_X xs c_U) = a_o (c_S before (xs.map Srx.name) a_n (a_X xs c_U)) xs.length from by unfold a_A; rw [if_neg (by simpa using h64), List.length_map])
 refine o_t ?_; intro HA HV HOk HB0 hbw HS0
 have eg1 : ∀ args W, (callFunc 43 args).run prog W = .ok (.enter 43 args) W := fun args W => by kernel_rfl
 refine p_5 ?_; intro eg2
 have eg3 : ∀ args W, (callFunc 44 args).run prog W = .ok (.enter 44 args) W := fun args W => by kernel_rfl
 clear hA hV hok hb0 hS
 go_enter func42, ntmps42
 go_wp2
 go_loopw [20] (fun i wr => ∃ k : Nat, k ≤ xs.length ∧ i = .int .i64 k ∧ Hid (∀ j, j < k → c_S before (xs.map Srx.name) a_n (a_X xs c_U) j = 0) ∧ Hid (b_d wr b (n + k) (before ++ (xs.map Srx.name).take k)) ∧ Hid (w.grownBy wr (some b))) (fun i _ => xs.length - (intOf i).toNat)
 case atStart => exact ⟨0, o_, rfl, a_2 fun j hj => absurd hj (Nat.not_lt_zero _), by simpa using HS0, g_ _ _⟩
 case round =>
  obtain ⟨k, hk, rfl, HZ, HS, HGr⟩ := hrel
  refine o_C ?_; intro hw0 hbl
  by_cases hlt : k < xs.length
  ·rcases HA.out with e | ⟨g, off, rfl, hg, hc⟩
   ·exact absurd hlt e_
   refine o_y ?_; intro vs hC hcs hcw; have hk2 : k < (xs.map Srx.name).length := by simpa using hlt
   have HT := a_2 (c_q (before := before) (names := (xs.map Srx.name)) (good := a_n) (own := a_X xs c_U) hk2 (by rw [List.getElem_map])); rw [c_n hlt] at HT; refine o_n ?_; intro hok1; have HTk := a_2 (show (xs.map Srx.name).take (k + 1) = (xs.map Srx.name).take k ++ [(xs[k]).name] from by rw [List.take_succ_eq_append_getElem hk2, List.getElem_map]); have HF := a_2 (fun x (e : c_S before (xs.map Srx.name) a_n (a_X xs c_U) k = x) (hx : x ≠ 0) => (HE.out.trans (a_q HZ.out (by rw [e]; exact hx) hlt)).trans e); have HN := a_2 (fun (e : c_S before (xs.map Srx.name) a_n (a_X xs c_U) k = 0) => a_T HZ.out e)
   have HO := a_2 (fun (x : Srx) (hx : xs[k] = x) (W : World) (hb : Below w0.heap.size w0 W) => show h_f w0 x vs → (x.ok) → Calls prog 44 #[.agg vs.toArray] W (fun e w' => e = .returned (.int .i64 (c_U x)) ∧ Below W.heap.size W w') from fun hC hk => by
    obtain ⟨a, b, h1, h2, rfl⟩ := hC; have h9 := HV.out; have hV := h9
    exact e_S x a b W (hV.words.below hb) (h1.below hb) (h2.below hb) hk)
   refine p_o ?_; intro HO2 hsl; clear HO hc hcs
   have hvs : ∃ (S1 : Option Addr) (m1 c1 : Nat) (S2 : Option Addr) (m2 c2 : Nat) (t3 : a_3) (t4 : a_3) (i5 : Int) (i6 : Int), vs = [str (xs[k]).name, .slice S1 m1 c1, .slice S2 m2 c2, str t3, str t4, .int .i64 i5, .int .i64 i6] := by
    obtain ⟨a, b, h1, h2, rfl⟩ := hC; exact ⟨_, _, _, _, _, _, _, _, _, _, rfl⟩
   obtain ⟨S1, m1, c1, S2, m2, c2, t3, t4, i5, i6, rfl⟩ := hvs; clear hC; have e0 : wr.cell? ⟨g, off + k * 7, none⟩ = some (str (xs[k]).name) := by simpa using hcw 0 s_
   refine r_J ?_; intro e1 e2 e3 e4 e5 e6; clear hcw hok1; generalize (xs[k]).name = s at *; generalize c_U xs[k] = v at *; refine p_z ?_; intro HQ HG; have HNm := a_2 (fun W => m_b s S1 m1 c1 S2 m2 c2 t3 t4 i5 i6 W); have HAL := a_2 (show Below wr.heap.size wr (wr.alloc (.cells #[str s, .slice S1 m1 c1, .slice S2 m2 c2, str t3, str t4, .int .i64 i5, .int .i64 i6] 57)) from zX); have hbox : Below (wr.heap.size + 1) (wr.alloc (.cells #[str s, .slice S1 m1 c1, .slice S2 m2 c2, str t3, str t4, .int .i64 i5, .int .i64 i6] 57)) (wr.alloc (.cells #[str s, .slice S1 m1 c1, .slice S2 m2 c2, str t3, str t4, .int .i64 i5, .int .i64 i6] 57)) := b_ _ _; unfold a_L at HQ; rw [show a_n s = true from rfl] at HT; have HL := a_2 (show (before ++ (xs.map Srx.name).take k) ++ [s] = before ++ (xs.map Srx.name).take (k + 1) from by rw [HTk.out, List.append_assoc]); clear HTk; generalize before ++ (xs.map Srx.name).take k = L at *; generalize hdd : decide (s ∈ L) = dd at *; generalize qlB s = q at *; refine o_H ?_; intro hfin; have HOw := a_2 (show ∀ W, Below w0.heap.size w0 W → Calls prog 44 #[.agg #[str s, .slice S1 m1 c1, .slice S2 m2 c2, str t3, str t4, .int .i64 i5, .int .i64 i6]] W (fun e w' => e = .returned (.int .i64 v) ∧ Below W.heap.size W w') from HO2.out); clear HO2 HOk
   cases q
   ·rw [if_neg s_] at HQ
    refine _ah ?_; intro HR; clear HT HF HN
    go_wp2_with (first
     | (go_at_fn 43; refine (HNm.out _).mono ?_; rintro e w1 ⟨rfl, hb1⟩; have hx1 := a_1 hbox s_ hb1; have hr1 := a_9 hb1 HAL.out)
     | (go_at_call 59; refine (HQ.out _ (a_9 hr1 hw0)).mono ?_; rintro e w2 ⟨rfl, hb2⟩; have hx2 := a_1 hx1 s_ hb2; have hr2 := a_9 hb2 hr1))
    exact k_1
   rw [if_pos rfl] at HQ
   cases dd
   rotate_left
   ·have HR := a_2 (HF.out 6 (by rw [HT.out]; simp [a_c]) d_)
    clear HT HF HN
    go_wp2_with (first
     | (go_at_fn 43; refine (HNm.out _).mono ?_; rintro e w1 ⟨rfl, hb1⟩; have hx1 := a_1 hbox s_ hb1; have hr1 := a_9 hb1 HAL.out)
     | (go_at_call 59; refine (HQ.out _ (a_9 hr1 hw0)).mono ?_; rintro e w2 ⟨rfl, hb2⟩; have hx2 := a_1 hx1 s_ hb2; have hr2 := a_9 hb2 hr1)
     | (go_at_fn 36; refine (HG.out _ (a_9 hr2 hw0)).mono ?_; rintro e w' ⟨rfl, rfl⟩)
     | (at_lookup; refine a_p _ rfl _ _ rfl b (n + k) L s rfl rfl (HS.out.kept hr2 hbl) hsl true hdd ?_))
    exact k_1
   by_cases hv : v = 0
   rotate_left
   ·have hvb : (v != 0) = true := by simpa using hv
    refine o_D ?_; intro HR HV0; clear HT HF HN hv
    go_wp2_with (first
     | (go_at_fn 43; refine (HNm.out _).mono ?_; rintro e w1 ⟨rfl, hb1⟩; have hx1 := a_1 hbox s_ hb1; have hr1 := a_9 hb1 HAL.out)
     | (go_at_call 59; refine (HQ.out _ (a_9 hr1 hw0)).mono ?_; rintro e w2 ⟨rfl, hb2⟩; have hx2 := a_1 hx1 s_ hb2; have hr2 := a_9 hb2 hr1)
     | (go_at_fn 36; refine (HG.out _ (a_9 hr2 hw0)).mono ?_; rintro e w' ⟨rfl, rfl⟩)
     | (at_lookup; refine a_p _ rfl _ _ rfl b (n + k) L s rfl rfl (HS.out.kept hr2 hbl) hsl false hdd ?_)
     | (at_mapUpdate; refine a_P _ rfl _ _ _ rfl b (n + k) L s rfl rfl rfl (HS.out.kept hr2 hbl) x_ hsl ?_; intro w4 hs4 hg4; have hh3 := a_y hx2 (Nat.lt_succ_self _); have hh4 := (hg4.block _ (a_6 hh3) m_).trans hh3; have HS4 := a_2 hs4; have HG4 := a_2 ((hfin _ hr2).trans hg4); have hw4 := (a_9 hr2 hw0).grown hg4 (a_9 hr2 hw0).size (fun j hj => by cases hj; exact hbb); have d0 : w4.cell? ⟨wr.heap.size, 0, none⟩ = some (str s) := a_0 hh4 0; have d1 : w4.cell? ⟨wr.heap.size, 1, none⟩ = some (.slice S1 m1 c1) := a_0 hh4 1; have d2 : w4.cell? ⟨wr.heap.size, 2, none⟩ = some (.slice S2 m2 c2) := a_0 hh4 2; have d3 : w4.cell? ⟨wr.heap.size, 3, none⟩ = some (str t3) := a_0 hh4 3; have d4 : w4.cell? ⟨wr.heap.size, 4, none⟩ = some (str t4) := a_0 hh4 4; have d5 : w4.cell? ⟨wr.heap.size, 5, none⟩ = some (.int .i64 i5) := a_0 hh4 5; have d6 : w4.cell? ⟨wr.heap.size, 6, none⟩ = some (.int .i64 i6) := a_0 hh4 6; clear hs4 hg4 hh3 hh4)
     | (go_at_fn 44; refine (HOw.out _ hw4).mono ?_; rintro e w5 ⟨rfl, hb5⟩))
    exact o_l
   ·subst hv
    refine k_m ?_; intro HR; clear HT HF HN
    go_wp2_with (first
     | (go_at_fn 43; refine (HNm.out _).mono ?_; rintro e w1 ⟨rfl, hb1⟩; have hx1 := a_1 hbox s_ hb1; have hr1 := a_9 hb1 HAL.out)
     | (go_at_call 59; refine (HQ.out _ (a_9 hr1 hw0)).mono ?_; rintro e w2 ⟨rfl, hb2⟩; have hx2 := a_1 hx1 s_ hb2; have hr2 := a_9 hb2 hr1)
     | (go_at_fn 36; refine (HG.out _ (a_9 hr2 hw0)).mono ?_; rintro e w' ⟨rfl, rfl⟩)
     | (at_lookup; refine a_p _ rfl _ _ rfl b (n + k) L s rfl rfl (HS.out.kept hr2 hbl) hsl false hdd ?_)
     | (at_mapUpdate; refine a_P _ rfl _ _ _ rfl b (n + k) L s rfl rfl rfl (HS.out.kept hr2 hbl) x_ hsl ?_; intro w4 hs4 hg4; have hh3 := a_y hx2 (Nat.lt_succ_self _); have hh4 := (hg4.block _ (a_6 hh3) m_).trans hh3; have HS4 := a_2 hs4; have HG4 := a_2 ((hfin _ hr2).trans hg4); have hw4 := (a_9 hr2 hw0).grown hg4 (a_9 hr2 hw0).size (fun j hj => by cases hj; exact hbb); have d0 : w4.cell? ⟨wr.heap.size, 0, none⟩ = some (str s) := a_0 hh4 0; have d1 : w4.cell? ⟨wr.heap.size, 1, none⟩ = some (.slice S1 m1 c1) := a_0 hh4 1; have d2 : w4.cell? ⟨wr.heap.size, 2, none⟩ = some (.slice S2 m2 c2) := a_0 hh4 2; have d3 : w4.cell? ⟨wr.heap.size, 3, none⟩ = some (str t3) := a_0 hh4 3; have d4 : w4.cell? ⟨wr.heap.size, 4, none⟩ = some (str t4) := a_0 hh4 4; have d5 : w4.cell? ⟨wr.heap.size, 5, none⟩ = some (.int .i64 i5) := a_0 hh4 5; have d6 : w4.cell? ⟨wr.heap.size, 6, none⟩ = some (.int .i64 i6) := a_0 hh4 6; clear hs4 hg4 hh3 hh4)
     | (go_at_fn 44; refine (HOw.out _ hw4).mono ?_; rintro e w5 ⟨rfl, hb5⟩))
    exact o_m
  ·obtain rfl : k = xs.length := by omega
   refine i_2 ?_; intro HR; have HS9 := HS.out; rw [List.take_of_length_le s_] at HS9; have HS8 := a_2 HS9
   go_wp2
   exact o_j
set_option maxRecDepth 512
theorem m_U (s : a_3) (S1 : Option Addr) (m1 c1 : Nat) (S2 : Option Addr) (m2 c2 : Nat) (w : World) : Calls prog 47 #[.agg #[str s, .slice S1 m1 c1, .slice S2 m2 c2]] w fun e w' => e = .returned (str s) ∧ Below w.heap.size w w' := by
 go_enter func47, ntmps47
 go_wp2
 exact k_t
set_option maxRecDepth 100000
theorem n_v (A : Option Addr) (xs : List Mac) (c b n : Nat) (before : List a_3) (w0 w : World) (hS : b_d w b n before) (hn : n ≤ 1000) (hb0 : Below w0.heap.size w0 w) (hbb : w0.heap.size ≤ b) (hV : PjV w0) (hA : a_l 3 f_J w0 A xs)
  (hl : xs.length ≤ 8796093022208) (hok : ∀ z ∈ xs, z.ok) :
  Calls prog 46 #[.slice A xs.length c, .map (some b), .func (.func 47) #[] #[], .func (.func 48) #[] #[], .func (.func 50) #[] #[]] w fun e w' =>
   e = .returned (.int .i64 (a_A before (xs.map Mac.name) (fun s => !biB s) (a_X xs e_i))) ∧ w.grownBy w' (some b) ∧ (a_A before (xs.map Mac.name) (fun s => !biB s) (a_X xs e_i) = 0 → b_d w' b (n + xs.length) (before ++ (xs.map Mac.name))) := by
 by_cases h64 : 64 < xs.length
 ·have HE := a_2 (show a_A before (xs.map Mac.name) (fun s => !biB s) (a_X xs e_i) = 2 from by unfold a_A; rw [if_pos (by simpa using h64)])
  go_enter func46, ntmps46
  go_wp2
  exact o_s
 have HE := a_2 (show a_A before (xs.map Mac.name) (fun s => !biB s) (a_X xs e_i) = a_o (c_S before (xs.map Mac.name) (fun s => !biB s) (a_X xs e_i)) xs.length from by unfold a_A; rw [if_neg (by simpa using h64), List.length_map])
 refine o_t ?_; intro HA HV HOk HB0 hbw HS0
 have eg1 : ∀ args W, (callFunc 47 args).run prog W = .ok (.enter 47 args) W := fun args W => by kernel_rfl
 have eg2 : ∀ args W, (callFunc 48 args).run prog W = .ok (.enter 48 args) W := fun args W => by kernel_rfl
 have eg3 : ∀ args W, (callFunc 50 args).run prog W = .ok (.enter 50 args) W := fun args W => by kernel_rfl
 clear hA hV hok hb0 hS
 go_enter func46, ntmps46
 go_wp2
 go_loopw [20] (fun i wr => ∃ k : Nat, k ≤ xs.length ∧ i = .int .i64 k ∧ Hid (∀ j, j < k → c_S before (xs.map Mac.name) (fun s => !biB s) (a_X xs e_i) j = 0) ∧ Hid (b_d wr b (n + k) (before ++ (xs.map Mac.name).take k)) ∧ Hid (w.grownBy wr (some b))) (fun i _ => xs.length - (intOf i).toNat)
 case atStart => exact ⟨0, o_, rfl, a_2 fun j hj => absurd hj (Nat.not_lt_zero _), by simpa using HS0, g_ _ _⟩
 case round =>
  obtain ⟨k, hk, rfl, HZ, HS, HGr⟩ := hrel
  refine o_C ?_; intro hw0 hbl
  by_cases hlt : k < xs.length
  ·rcases HA.out with e | ⟨g, off, rfl, hg, hc⟩
   ·exact absurd hlt e_
   refine o_y ?_; intro vs hC hcs hcw; have hk2 : k < (xs.map Mac.name).length := by simpa using hlt
   have HT := a_2 (c_q (before := before) (names := (xs.map Mac.name)) (good := (fun s => !biB s)) (own := a_X xs e_i) hk2 (by rw [List.getElem_map])); rw [c_n hlt] at HT; refine o_n ?_; intro hok1; have HTk := a_2 (show (xs.map Mac.name).take (k + 1) = (xs.map Mac.name).take k ++ [(xs[k]).name] from by rw [List.take_succ_eq_append_getElem hk2, List.getElem_map]); have HF := a_2 (fun x (e : c_S before (xs.map Mac.name) (fun s => !biB s) (a_X xs e_i) k = x) (hx : x ≠ 0) => (HE.out.trans (a_q HZ.out (by rw [e]; exact hx) hlt)).trans e); have HN := a_2 (fun (e : c_S before (xs.map Mac.name) (fun s => !biB s) (a_X xs e_i) k = 0) => a_T HZ.out e)
   have HO := a_2 (fun (x : Mac) (hx : xs[k] = x) (W : World) (hb : Below w0.heap.size w0 W) => show f_J w0 x vs → (x.ok) → Calls prog 50 #[.agg vs.toArray] W (fun e w' => e = .returned (.int .i64 (e_i x)) ∧ Below W.heap.size W w') from fun hC hk => by
    obtain ⟨a, b, h1, h2, rfl⟩ := hC; have h9 := HV.out; have hV := h9
    exact d_N x a b W (hV.words.below hb) (h1.below hb) (h2.below hb) hk)
   refine p_o ?_; intro HO2 hsl; clear HO hc hcs
   have hvs : ∃ (S1 : Option Addr) (m1 c1 : Nat) (S2 : Option Addr) (m2 c2 : Nat), vs = [str (xs[k]).name, .slice S1 m1 c1, .slice S2 m2 c2] := by
    obtain ⟨a, b, h1, h2, rfl⟩ := hC; exact ⟨_, _, _, _, _, _, rfl⟩
   obtain ⟨S1, m1, c1, S2, m2, c2, rfl⟩ := hvs; clear hC; have e0 : wr.cell? ⟨g, off + k * 3, none⟩ = some (str (xs[k]).name) := by simpa using hcw 0 s_
   have e1 : wr.cell? ⟨g, off + k * 3 + 1, none⟩ = some (.slice S1 m1 c1) := by simpa using hcw 1 s_
   refine q_0 ?_; intro e2; clear hcw hok1; generalize (xs[k]).name = s at *; generalize e_i xs[k] = v at *; have HQ := a_2 (fun W (hb : Below w0.heap.size w0 W) => a_O s W (HV.out.words.below hb) hsl); have HG := a_2 (fun W (hb : Below w0.heap.size w0 W) => h_d s W (HV.out.bi.below hb)); have HNm := a_2 (fun W => m_U s S1 m1 c1 S2 m2 c2 W); have HAL := a_2 (show Below wr.heap.size wr (wr.alloc (.cells #[str s, .slice S1 m1 c1, .slice S2 m2 c2] 74)) from zX); have hbox : Below (wr.heap.size + 1) (wr.alloc (.cells #[str s, .slice S1 m1 c1, .slice S2 m2 c2] 74)) (wr.alloc (.cells #[str s, .slice S1 m1 c1, .slice S2 m2 c2] 74)) := b_ _ _; unfold a_L at HQ; generalize (!biB s) = gd at *; have HL := a_2 (show (before ++ (xs.map Mac.name).take k) ++ [s] = before ++ (xs.map Mac.name).take (k + 1) from by rw [HTk.out, List.append_assoc]); clear HTk; generalize before ++ (xs.map Mac.name).take k = L at *; generalize hdd : decide (s ∈ L) = dd at *; generalize qlB s = q at *; refine o_H ?_; intro hfin; have HOw := a_2 (show ∀ W, Below w0.heap.size w0 W → Calls prog 50 #[.agg #[str s, .slice S1 m1 c1, .slice S2 m2 c2]] W (fun e w' => e = .returned (.int .i64 v) ∧ Below W.heap.size W w') from HO2.out); clear HO2 HOk
   cases q
   ·rw [if_neg s_] at HQ
    refine _ah ?_; intro HR; clear HT HF HN
    go_wp2_with (first
     | (go_at_fn 47; refine (HNm.out _).mono ?_; rintro e w1 ⟨rfl, hb1⟩; have hx1 := a_1 hbox s_ hb1; have hr1 := a_9 hb1 HAL.out)
     | (go_at_call 59; refine (HQ.out _ (a_9 hr1 hw0)).mono ?_; rintro e w2 ⟨rfl, hb2⟩; have hx2 := a_1 hx1 s_ hb2; have hr2 := a_9 hb2 hr1))
    exact k_1
   rw [if_pos rfl] at HQ
   cases gd
   ·have HR := a_2 (HF.out 4 (by rw [HT.out]; simp [a_c]) d_)
    clear HT HF HN
    go_wp2_with (first
     | (go_at_fn 47; refine (HNm.out _).mono ?_; rintro e w1 ⟨rfl, hb1⟩; have hx1 := a_1 hbox s_ hb1; have hr1 := a_9 hb1 HAL.out)
     | (go_at_call 59; refine (HQ.out _ (a_9 hr1 hw0)).mono ?_; rintro e w2 ⟨rfl, hb2⟩; have hx2 := a_1 hx1 s_ hb2; have hr2 := a_9 hb2 hr1)
     | (go_at_fn 48; refine (HG.out _ (a_9 hr2 hw0)).mono ?_; rintro e w' ⟨rfl, rfl⟩))
    exact k_1
   cases dd
   rotate_left
   ·have HR := a_2 (HF.out 6 (by rw [HT.out]; simp [a_c]) d_)
    clear HT HF HN
    go_wp2_with (first
     | (go_at_fn 47; refine (HNm.out _).mono ?_; rintro e w1 ⟨rfl, hb1⟩; have hx1 := a_1 hbox s_ hb1; have hr1 := a_9 hb1 HAL.out)
     | (go_at_call 59; refine (HQ.out _ (a_9 hr1 hw0)).mono ?_; rintro e w2 ⟨rfl, hb2⟩; have hx2 := a_1 hx1 s_ hb2; have hr2 := a_9 hb2 hr1)
     | (go_at_fn 48; refine (HG.out _ (a_9 hr2 hw0)).mono ?_; rintro e w' ⟨rfl, rfl⟩)
     | (at_lookup; refine a_p _ rfl _ _ rfl b (n + k) L s rfl rfl (HS.out.kept hr2 hbl) hsl true hdd ?_))
    exact k_1
   by_cases hv : v = 0
   rotate_left
   ·have hvb : (v != 0) = true := by simpa using hv
    refine o_D ?_; intro HR HV0; clear HT HF HN hv
    go_wp2_with (first
     | (go_at_fn 47; refine (HNm.out _).mono ?_; rintro e w1 ⟨rfl, hb1⟩; have hx1 := a_1 hbox s_ hb1; have hr1 := a_9 hb1 HAL.out)
     | (go_at_call 59; refine (HQ.out _ (a_9 hr1 hw0)).mono ?_; rintro e w2 ⟨rfl, hb2⟩; have hx2 := a_1 hx1 s_ hb2; have hr2 := a_9 hb2 hr1)
     | (go_at_fn 48; refine (HG.out _ (a_9 hr2 hw0)).mono ?_; rintro e w' ⟨rfl, rfl⟩)
     | (at_lookup; refine a_p _ rfl _ _ rfl b (n + k) L s rfl rfl (HS.out.kept hr2 hbl) hsl false hdd ?_)
     | (at_mapUpdate; refine a_P _ rfl _ _ _ rfl b (n + k) L s rfl rfl rfl (HS.out.kept hr2 hbl) x_ hsl ?_; intro w4 hs4 hg4; have hh3 := a_y hx2 (Nat.lt_succ_self _); have hh4 := (hg4.block _ (a_6 hh3) m_).trans hh3; have HS4 := a_2 hs4; have HG4 := a_2 ((hfin _ hr2).trans hg4); have hw4 := (a_9 hr2 hw0).grown hg4 (a_9 hr2 hw0).size (fun j hj => by cases hj; exact hbb); have d0 : w4.cell? ⟨wr.heap.size, 0, none⟩ = some (str s) := a_0 hh4 0; have d1 : w4.cell? ⟨wr.heap.size, 1, none⟩ = some (.slice S1 m1 c1) := a_0 hh4 1; have d2 : w4.cell? ⟨wr.heap.size, 2, none⟩ = some (.slice S2 m2 c2) := a_0 hh4 2; clear hs4 hg4 hh3 hh4)
     | (go_at_fn 50; refine (HOw.out _ hw4).mono ?_; rintro e w5 ⟨rfl, hb5⟩))
    exact o_l
   ·subst hv
    refine k_m ?_; intro HR; clear HT HF HN
    go_wp2_with (first
     | (go_at_fn 47; refine (HNm.out _).mono ?_; rintro e w1 ⟨rfl, hb1⟩; have hx1 := a_1 hbox s_ hb1; have hr1 := a_9 hb1 HAL.out)
     | (go_at_call 59; refine (HQ.out _ (a_9 hr1 hw0)).mono ?_; rintro e w2 ⟨rfl, hb2⟩; have hx2 := a_1 hx1 s_ hb2; have hr2 := a_9 hb2 hr1)
     | (go_at_fn 48; refine (HG.out _ (a_9 hr2 hw0)).mono ?_; rintro e w' ⟨rfl, rfl⟩)
     | (at_lookup; refine a_p _ rfl _ _ rfl b (n + k) L s rfl rfl (HS.out.kept hr2 hbl) hsl false hdd ?_)
     | (at_mapUpdate; refine a_P _ rfl _ _ _ rfl b (n + k) L s rfl rfl rfl (HS.out.kept hr2 hbl) x_ hsl ?_; intro w4 hs4 hg4; have hh3 := a_y hx2 (Nat.lt_succ_self _); have hh4 := (hg4.block _ (a_6 hh3) m_).trans hh3; have HS4 := a_2 hs4; have HG4 := a_2 ((hfin _ hr2).trans hg4); have hw4 := (a_9 hr2 hw0).grown hg4 (a_9 hr2 hw0).size (fun j hj => by cases hj; exact hbb); have d0 : w4.cell? ⟨wr.heap.size, 0, none⟩ = some (str s) := a_0 hh4 0; have d1 : w4.cell? ⟨wr.heap.size, 1, none⟩ = some (.slice S1 m1 c1) := a_0 hh4 1; have d2 : w4.cell? ⟨wr.heap.size, 2, none⟩ = some (.slice S2 m2 c2) := a_0 hh4 2; clear hs4 hg4 hh3 hh4)
     | (go_at_fn 50; refine (HOw.out _ hw4).mono ?_; rintro e w5 ⟨rfl, hb5⟩))
    exact o_m
  ·obtain rfl : k = xs.length := by omega
   refine i_2 ?_; intro HR; have HS9 := HS.out; rw [List.take_of_length_le s_] at HS9; have HS8 := a_2 HS9
   go_wp2
   exact o_j
set_option maxRecDepth 512
theorem m_v (s : a_3) (S1 : Option Addr) (m1 c1 : Nat) (S2 : Option Addr) (m2 c2 : Nat) (t3 : a_3) (t4 : a_3) (i5 : Int) (t6 : a_3) (i7 : Int) (w : World) : Calls prog 53 #[.agg #[str s, .slice S1 m1 c1, .slice S2 m2 c2, str t3, str t4, .int .i64 i5, str t6, .int .i64 i7]] w fun e w' => e = .returned (str s) ∧ Below w.heap.size w w' := by
 go_enter func53, ntmps53
 go_wp2
 exact k_t
set_option maxRecDepth 100000
theorem o_1 (A : Option Addr) (xs : List Mdl) (c b n : Nat) (before : List a_3) (w0 w : World) (hS : b_d w b n before) (hn : n ≤ 1000) (hb0 : Below w0.heap.size w0 w) (hbb : w0.heap.size ≤ b) (hV : PjV w0) (hA : a_l 8 f_I w0 A xs)
  (hl : xs.length ≤ 8796093022208) (hok : ∀ z ∈ xs, z.ok) :
  Calls prog 52 #[.slice A xs.length c, .map (some b), .func (.func 53) #[] #[], .func (.func 36) #[] #[], .func (.func 54) #[] #[]] w fun e w' =>
   e = .returned (.int .i64 (a_A before (xs.map Mdl.name) a_n (a_X xs e_m))) ∧ w.grownBy w' (some b) ∧ (a_A before (xs.map Mdl.name) a_n (a_X xs e_m) = 0 → b_d w' b (n + xs.length) (before ++ (xs.map Mdl.name))) := by
 by_cases h64 : 64 < xs.length
 ·have HE := a_2 (show a_A before (xs.map Mdl.name) a_n (a_X xs e_m) = 2 from by unfold a_A; rw [if_pos (by simpa using h64)])
  go_enter func52, ntmps52
  go_wp2
  exact o_s
 have HE := a_2 (show a_A before (xs.map Mdl.name) a_n (a_X xs e_m) = a_o (c_S before (xs.map Mdl.name) a_n (a_X xs e_m)) xs.length from by unfold a_A; rw [if_neg (by simpa using h64), List.length_map])
 refine o_t ?_; intro HA HV HOk HB0 hbw HS0
 have eg1 : ∀ args W, (callFunc 53 args).run prog W = .ok (.enter 53 args) W := fun args W => by kernel_rfl
 refine p_5 ?_; intro eg2
 have eg3 : ∀ args W, (callFunc 54 args).run prog W = .ok (.enter 54 args) W := fun args W => by kernel_rfl
 clear hA hV hok hb0 hS
 go_enter func52, ntmps52
 go_wp2
 go_loopw [20] (fun i wr => ∃ k : Nat, k ≤ xs.length ∧ i = .int .i64 k ∧ Hid (∀ j, j < k → c_S before (xs.map Mdl.name) a_n (a_X xs e_m) j = 0) ∧ Hid (b_d wr b (n + k) (before ++ (xs.map Mdl.name).take k)) ∧ Hid (w.grownBy wr (some b))) (fun i _ => xs.length - (intOf i).toNat)
 case atStart => exact ⟨0, o_, rfl, a_2 fun j hj => absurd hj (Nat.not_lt_zero _), by simpa using HS0, g_ _ _⟩
 case round =>
  obtain ⟨k, hk, rfl, HZ, HS, HGr⟩ := hrel
  refine o_C ?_; intro hw0 hbl
  by_cases hlt : k < xs.length
  ·rcases HA.out with e | ⟨g, off, rfl, hg, hc⟩
   ·exact absurd hlt e_
   refine o_y ?_; intro vs hC hcs hcw; have hk2 : k < (xs.map Mdl.name).length := by simpa using hlt
   have HT := a_2 (c_q (before := before) (names := (xs.map Mdl.name)) (good := a_n) (own := a_X xs e_m) hk2 (by rw [List.getElem_map])); rw [c_n hlt] at HT; refine o_n ?_; intro hok1; have HTk := a_2 (show (xs.map Mdl.name).take (k + 1) = (xs.map Mdl.name).take k ++ [(xs[k]).name] from by rw [List.take_succ_eq_append_getElem hk2, List.getElem_map]); have HF := a_2 (fun x (e : c_S before (xs.map Mdl.name) a_n (a_X xs e_m) k = x) (hx : x ≠ 0) => (HE.out.trans (a_q HZ.out (by rw [e]; exact hx) hlt)).trans e); have HN := a_2 (fun (e : c_S before (xs.map Mdl.name) a_n (a_X xs e_m) k = 0) => a_T HZ.out e)
   have HO := a_2 (fun (x : Mdl) (hx : xs[k] = x) (W : World) (hb : Below w0.heap.size w0 W) => show f_I w0 x vs → (x.ok) → Calls prog 54 #[.agg vs.toArray] W (fun e w' => e = .returned (.int .i64 (e_m x)) ∧ Below W.heap.size W w') from fun hC hk => by
    obtain ⟨a, b, h1, h2, rfl⟩ := hC; have h9 := HV.out; have hV := h9
    exact f_u x a b W (hV.words.below hb) (hV.used.below hb) (h1.below hb) (h2.below hb) hk)
   refine p_o ?_; intro HO2 hsl; clear HO hc hcs
   have hvs : ∃ (S1 : Option Addr) (m1 c1 : Nat) (S2 : Option Addr) (m2 c2 : Nat) (t3 : a_3) (t4 : a_3) (i5 : Int) (t6 : a_3) (i7 : Int), vs = [str (xs[k]).name, .slice S1 m1 c1, .slice S2 m2 c2, str t3, str t4, .int .i64 i5, str t6, .int .i64 i7] := by
    obtain ⟨a, b, h1, h2, rfl⟩ := hC; exact ⟨_, _, _, _, _, _, _, _, _, _, _, rfl⟩
   obtain ⟨S1, m1, c1, S2, m2, c2, t3, t4, i5, t6, i7, rfl⟩ := hvs; clear hC; have e0 : wr.cell? ⟨g, off + k * 8, none⟩ = some (str (xs[k]).name) := by simpa using hcw 0 s_
   refine _ac ?_; intro e1 e2 e3 e4 e5 e6 e7; clear hcw hok1; generalize (xs[k]).name = s at *; generalize e_m xs[k] = v at *; refine p_z ?_; intro HQ HG; have HNm := a_2 (fun W => m_v s S1 m1 c1 S2 m2 c2 t3 t4 i5 t6 i7 W); have HAL := a_2 (show Below wr.heap.size wr (wr.alloc (.cells #[str s, .slice S1 m1 c1, .slice S2 m2 c2, str t3, str t4, .int .i64 i5, str t6, .int .i64 i7] 62)) from zX); have hbox : Below (wr.heap.size + 1) (wr.alloc (.cells #[str s, .slice S1 m1 c1, .slice S2 m2 c2, str t3, str t4, .int .i64 i5, str t6, .int .i64 i7] 62)) (wr.alloc (.cells #[str s, .slice S1 m1 c1, .slice S2 m2 c2, str t3, str t4, .int .i64 i5, str t6, .int .i64 i7] 62)) := b_ _ _; unfold a_L at HQ; rw [show a_n s = true from rfl] at HT; have HL := a_2 (show (before ++ (xs.map Mdl.name).take k) ++ [s] = before ++ (xs.map Mdl.name).take (k + 1) from by rw [HTk.out, List.append_assoc]); clear HTk; generalize before ++ (xs.map Mdl.name).take k = L at *; generalize hdd : decide (s ∈ L) = dd at *; generalize qlB s = q at *; refine o_H ?_; intro hfin; have HOw := a_2 (show ∀ W, Below w0.heap.size w0 W → Calls prog 54 #[.agg #[str s, .slice S1 m1 c1, .slice S2 m2 c2, str t3, str t4, .int .i64 i5, str t6, .int .i64 i7]] W (fun e w' => e = .returned (.int .i64 v) ∧ Below W.heap.size W w') from HO2.out); clear HO2 HOk
   cases q
   ·rw [if_neg s_] at HQ
    refine _ah ?_; intro HR; clear HT HF HN
    go_wp2_with (first
     | (go_at_fn 53; refine (HNm.out _).mono ?_; rintro e w1 ⟨rfl, hb1⟩; have hx1 := a_1 hbox s_ hb1; have hr1 := a_9 hb1 HAL.out)
     | (go_at_call 59; refine (HQ.out _ (a_9 hr1 hw0)).mono ?_; rintro e w2 ⟨rfl, hb2⟩; have hx2 := a_1 hx1 s_ hb2; have hr2 := a_9 hb2 hr1))
    exact k_1
   rw [if_pos rfl] at HQ
   cases dd
   rotate_left
   ·have HR := a_2 (HF.out 6 (by rw [HT.out]; simp [a_c]) d_)
    clear HT HF HN
    go_wp2_with (first
     | (go_at_fn 53; refine (HNm.out _).mono ?_; rintro e w1 ⟨rfl, hb1⟩; have hx1 := a_1 hbox s_ hb1; have hr1 := a_9 hb1 HAL.out)
     | (go_at_call 59; refine (HQ.out _ (a_9 hr1 hw0)).mono ?_; rintro e w2 ⟨rfl, hb2⟩; have hx2 := a_1 hx1 s_ hb2; have hr2 := a_9 hb2 hr1)
     | (go_at_fn 36; refine (HG.out _ (a_9 hr2 hw0)).mono ?_; rintro e w' ⟨rfl, rfl⟩)
     | (at_lookup; refine a_p _ rfl _ _ rfl b (n + k) L s rfl rfl (HS.out.kept hr2 hbl) hsl true hdd ?_))
    exact k_1
   by_cases hv : v = 0
   rotate_left
   ·have hvb : (v != 0) = true := by simpa using hv
    refine o_D ?_; intro HR HV0; clear HT HF HN hv
    go_wp2_with (first
     | (go_at_fn 53; refine (HNm.out _).mono ?_; rintro e w1 ⟨rfl, hb1⟩; have hx1 := a_1 hbox s_ hb1; have hr1 := a_9 hb1 HAL.out)
     | (go_at_call 59; refine (HQ.out _ (a_9 hr1 hw0)).mono ?_; rintro e w2 ⟨rfl, hb2⟩; have hx2 := a_1 hx1 s_ hb2; have hr2 := a_9 hb2 hr1)
     | (go_at_fn 36; refine (HG.out _ (a_9 hr2 hw0)).mono ?_; rintro e w' ⟨rfl, rfl⟩)
     | (at_lookup; refine a_p _ rfl _ _ rfl b (n + k) L s rfl rfl (HS.out.kept hr2 hbl) hsl false hdd ?_)
     | (at_mapUpdate; refine a_P _ rfl _ _ _ rfl b (n + k) L s rfl rfl rfl (HS.out.kept hr2 hbl) x_ hsl ?_; intro w4 hs4 hg4; have hh3 := a_y hx2 (Nat.lt_succ_self _); have hh4 := (hg4.block _ (a_6 hh3) m_).trans hh3; have HS4 := a_2 hs4; have HG4 := a_2 ((hfin _ hr2).trans hg4); have hw4 := (a_9 hr2 hw0).grown hg4 (a_9 hr2 hw0).size (fun j hj => by cases hj; exact hbb); have d0 : w4.cell? ⟨wr.heap.size, 0, none⟩ = some (str s) := a_0 hh4 0; have d1 : w4.cell? ⟨wr.heap.size, 1, none⟩ = some (.slice S1 m1 c1) := a_0 hh4 1; have d2 : w4.cell? ⟨wr.heap.size, 2, none⟩ = some (.slice S2 m2 c2) := a_0 hh4 2; have d3 : w4.cell? ⟨wr.heap.size, 3, none⟩ = some (str t3) := a_0 hh4 3; have d4 : w4.cell? ⟨wr.heap.size, 4, none⟩ = some (str t4) := a_0 hh4 4; have d5 : w4.cell? ⟨wr.heap.size, 5, none⟩ = some (.int .i64 i5) := a_0 hh4 5; have d6 : w4.cell? ⟨wr.heap.size, 6, none⟩ = some (str t6) := a_0 hh4 6; have d7 : w4.cell? ⟨wr.heap.size, 7, none⟩ = some (.int .i64 i7) := a_0 hh4 7; clear hs4 hg4 hh3 hh4)
     | (go_at_fn 54; refine (HOw.out _ hw4).mono ?_; rintro e w5 ⟨rfl, hb5⟩))
    exact o_l
   ·subst hv
    refine k_m ?_; intro HR; clear HT HF HN
    go_wp2_with (first
     | (go_at_fn 53; refine (HNm.out _).mono ?_; rintro e w1 ⟨rfl, hb1⟩; have hx1 := a_1 hbox s_ hb1; have hr1 := a_9 hb1 HAL.out)
     | (go_at_call 59; refine (HQ.out _ (a_9 hr1 hw0)).mono ?_; rintro e w2 ⟨rfl, hb2⟩; have hx2 := a_1 hx1 s_ hb2; have hr2 := a_9 hb2 hr1)
     | (go_at_fn 36; refine (HG.out _ (a_9 hr2 hw0)).mono ?_; rintro e w' ⟨rfl, rfl⟩)
     | (at_lookup; refine a_p _ rfl _ _ rfl b (n + k) L s rfl rfl (HS.out.kept hr2 hbl) hsl false hdd ?_)
     | (at_mapUpdate; refine a_P _ rfl _ _ _ rfl b (n + k) L s rfl rfl rfl (HS.out.kept hr2 hbl) x_ hsl ?_; intro w4 hs4 hg4; have hh3 := a_y hx2 (Nat.lt_succ_self _); have hh4 := (hg4.block _ (a_6 hh3) m_).trans hh3; have HS4 := a_2 hs4; have HG4 := a_2 ((hfin _ hr2).trans hg4); have hw4 := (a_9 hr2 hw0).grown hg4 (a_9 hr2 hw0).size (fun j hj => by cases hj; exact hbb); have d0 : w4.cell? ⟨wr.heap.size, 0, none⟩ = some (str s) := a_0 hh4 0; have d1 : w4.cell? ⟨wr.heap.size, 1, none⟩ = some (.slice S1 m1 c1) := a_0 hh4 1; have d2 : w4.cell? ⟨wr.heap.size, 2, none⟩ = some (.slice S2 m2 c2) := a_0 hh4 2; have d3 : w4.cell? ⟨wr.heap.size, 3, none⟩ = some (str t3) := a_0 hh4 3; have d4 : w4.cell? ⟨wr.heap.size, 4, none⟩ = some (str t4) := a_0 hh4 4; have d5 : w4.cell? ⟨wr.heap.size, 5, none⟩ = some (.int .i64 i5) := a_0 hh4 5; have d6 : w4.cell? ⟨wr.heap.size, 6, none⟩ = some (str t6) := a_0 hh4 6; have d7 : w4.cell? ⟨wr.heap.size, 7, none⟩ = some (.int .i64 i7) := a_0 hh4 7; clear hs4 hg4 hh3 hh4)
     | (go_at_fn 54; refine (HOw.out _ hw4).mono ?_; rintro e w5 ⟨rfl, hb5⟩))
    exact o_m
  ·obtain rfl : k = xs.length := by omega
   refine i_2 ?_; intro HR; have HS9 := HS.out; rw [List.take_of_length_le s_] at HS9; have HS8 := a_2 HS9
   go_wp2
   exact o_j
end Go.Proofs.YtnpjibaolicbmaaGreatDoor
