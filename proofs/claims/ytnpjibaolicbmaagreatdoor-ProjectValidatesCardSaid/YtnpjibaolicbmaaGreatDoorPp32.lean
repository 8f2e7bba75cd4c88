/- Parts of the proof. -/
import Derived.Test.YtnpjibaolicbmaaGreatDoorPp25
set_option linter.unusedVariables false
set_option linter.unusedSimpArgs false
set_option maxHeartbeats 8000000
namespace Go.Proofs.YtnpjibaolicbmaaGreatDoor
open Go.Proofs.Tryz
open Go.RowKit
theorem i_u (x : Snp) (w : World) (hW : a_v w 1 a_w) (hk : x.ok) : Calls prog 58 #[.agg #[str x.name, str x.src]] w fun e w' => e = .returned (.int .i64 (f_B x)) ∧ Below w.heap.size w w' := by
 have H := a_2 (fun W (hb : Below w.heap.size w W) => a_O x.src W (hW.below hb) hk.src)
 rw [show f_B x = a_L x.src from rfl]
 clear hW hk
 generalize a_L x.src = v at *
 generalize x.src = s at *
 generalize x.name = n at *
 go_enter func58, ntmps58
 go_wp2_with (go_at_call 59; refine (H.out _ zX).mono ?_; rintro e w1 ⟨rfl, hb1⟩)
 exact p_J
theorem m_M (s : a_3) (t1 : a_3) (w : World) : Calls prog 57 #[.agg #[str s, str t1]] w fun e w' => e = .returned (str s) ∧ Below w.heap.size w w' := by
 go_enter func57, ntmps57
 go_wp2
 exact k_t
set_option maxRecDepth 100000
theorem n_L (A : Option Addr) (xs : List Snp) (c b n : Nat) (before : List a_3) (w0 w : World) (hS : b_d w b n before) (hn : n ≤ 1000) (hb0 : Below w0.heap.size w0 w) (hbb : w0.heap.size ≤ b) (hV : PjV w0) (hA : a_l 2 i_i w0 A xs)
  (hl : xs.length ≤ 8796093022208) (hok : ∀ z ∈ xs, z.ok) :
  Calls prog 56 #[.slice A xs.length c, .map (some b), .func (.func 57) #[] #[], .func (.func 36) #[] #[], .func (.func 58) #[] #[]] w fun e w' =>
   e = .returned (.int .i64 (a_A before (xs.map Snp.name) a_n (a_X xs f_B))) ∧ w.grownBy w' (some b) ∧ (a_A before (xs.map Snp.name) a_n (a_X xs f_B) = 0 → b_d w' b (n + xs.length) (before ++ (xs.map Snp.name))) := by
 by_cases h64 : 64 < xs.length
 ·have HE := a_2 (show a_A before (xs.map Snp.name) a_n (a_X xs f_B) = 2 from by unfold a_A; rw [if_pos (by simpa using h64)])
  go_enter func56, ntmps56
  go_wp2
  exact o_s
 have HE := a_2 (show a_A before (xs.map Snp.name) a_n (a_X xs f_B) = a_o (c_S before (xs.map Snp.name) a_n (a_X xs f_B)) xs.length from by unfold a_A; rw [if_neg (by simpa using h64), List.length_map])
 refine o_t ?_; intro HA HV HOk HB0 hbw HS0
 have eg1 : ∀ args W, (callFunc 57 args).run prog W = .ok (.enter 57 args) W := fun args W => by kernel_rfl
 refine p_5 ?_; intro eg2
 have eg3 : ∀ args W, (callFunc 58 args).run prog W = .ok (.enter 58 args) W := fun args W => by kernel_rfl
 clear hA hV hok hb0 hS
 go_enter func56, ntmps56
 go_wp2
 go_loopw [20] (fun i wr => ∃ k : Nat, k ≤ xs.length ∧ i = .int .i64 k ∧ Hid (∀ j, j < k → c_S before (xs.map Snp.name) a_n (a_X xs f_B) j = 0) ∧ Hid (b_d wr b (n + k) (before ++ (xs.map Snp.name).take k)) ∧ Hid (w.grownBy wr (some b))) (fun i _ => xs.length - (intOf i).toNat)
 case atStart => exact ⟨0, o_, rfl, a_2 fun j hj => absurd hj (Nat.not_lt_zero _), by simpa using HS0, g_ _ _⟩
 case round =>
  obtain ⟨k, hk, rfl, HZ, HS, HGr⟩ := hrel
  refine o_C ?_; intro hw0 hbl
  by_cases hlt : k < xs.length
  ·rcases HA.out with e | ⟨g, off, rfl, hg, hc⟩
   ·exact absurd hlt e_
   refine o_y ?_; intro vs hC hcs hcw; have hk2 : k < (xs.map Snp.name).length := by simpa using hlt
   have HT := a_2 (c_q (before := before) (names := (xs.map Snp.name)) (good := a_n) (own := a_X xs f_B) hk2 (by rw [List.getElem_map])); rw [c_n hlt] at HT; refine o_n ?_; intro hok1; have HTk := a_2 (show (xs.map Snp.name).take (k + 1) = (xs.map Snp.name).take k ++ [(xs[k]).name] from by rw [List.take_succ_eq_append_getElem hk2, List.getElem_map]); have HF := a_2 (fun x (e : c_S before (xs.map Snp.name) a_n (a_X xs f_B) k = x) (hx : x ≠ 0) => (HE.out.trans (a_q HZ.out (by rw [e]; exact hx) hlt)).trans e); have HN := a_2 (fun (e : c_S before (xs.map Snp.name) a_n (a_X xs f_B) k = 0) => a_T HZ.out e)
   have HO := a_2 (fun (x : Snp) (hx : xs[k] = x) (W : World) (hb : Below w0.heap.size w0 W) => show i_i w0 x vs → (x.ok) → Calls prog 58 #[.agg vs.toArray] W (fun e w' => e = .returned (.int .i64 (f_B x)) ∧ Below W.heap.size W w') from fun hC hk => by
    obtain rfl := hC; have h9 := HV.out; have hV := h9
    exact i_u x W (hV.words.below hb) hk)
   refine p_o ?_; intro HO2 hsl; clear HO hc hcs
   have hvs : ∃ (t1 : a_3), vs = [str (xs[k]).name, str t1] := by
    obtain rfl := hC; exact ⟨_, rfl⟩
   obtain ⟨t1, rfl⟩ := hvs; clear hC; have e0 : wr.cell? ⟨g, off + k * 2, none⟩ = some (str (xs[k]).name) := by simpa using hcw 0 s_
   have e1 : wr.cell? ⟨g, off + k * 2 + 1, none⟩ = some (str t1) := by simpa using hcw 1 s_
   clear hcw hok1; generalize (xs[k]).name = s at *; generalize f_B xs[k] = v at *; refine p_z ?_; intro HQ HG; have HNm := a_2 (fun W => m_M s t1 W); have HAL := a_2 (show Below wr.heap.size wr (wr.alloc (.cells #[str s, str t1] 52)) from zX); have hbox : Below (wr.heap.size + 1) (wr.alloc (.cells #[str s, str t1] 52)) (wr.alloc (.cells #[str s, str t1] 52)) := b_ _ _; unfold a_L at HQ; rw [show a_n s = true from rfl] at HT; have HL := a_2 (show (before ++ (xs.map Snp.name).take k) ++ [s] = before ++ (xs.map Snp.name).take (k + 1) from by rw [HTk.out, List.append_assoc]); clear HTk; generalize before ++ (xs.map Snp.name).take k = L at *; generalize hdd : decide (s ∈ L) = dd at *; generalize qlB s = q at *; refine o_H ?_; intro hfin; have HOw := a_2 (show ∀ W, Below w0.heap.size w0 W → Calls prog 58 #[.agg #[str s, str t1]] W (fun e w' => e = .returned (.int .i64 v) ∧ Below W.heap.size W w') from HO2.out); clear HO2 HOk
   cases q
   ·rw [if_neg s_] at HQ
    refine _ah ?_; intro HR; clear HT HF HN
    go_wp2_with (first
     | (go_at_fn 57; refine (HNm.out _).mono ?_; rintro e w1 ⟨rfl, hb1⟩; have hx1 := a_1 hbox s_ hb1; have hr1 := a_9 hb1 HAL.out)
     | (go_at_call 59; refine (HQ.out _ (a_9 hr1 hw0)).mono ?_; rintro e w2 ⟨rfl, hb2⟩; have hx2 := a_1 hx1 s_ hb2; have hr2 := a_9 hb2 hr1))
    exact k_1
   rw [if_pos rfl] at HQ
   cases dd
   rotate_left
   ·have HR := a_2 (HF.out 6 (by rw [HT.out]; simp [a_c]) d_)
    clear HT HF HN
    go_wp2_with (first
     | (go_at_fn 57; refine (HNm.out _).mono ?_; rintro e w1 ⟨rfl, hb1⟩; have hx1 := a_1 hbox s_ hb1; have hr1 := a_9 hb1 HAL.out)
     | (go_at_call 59; refine (HQ.out _ (a_9 hr1 hw0)).mono ?_; rintro e w2 ⟨rfl, hb2⟩; have hx2 := a_1 hx1 s_ hb2; have hr2 := a_9 hb2 hr1)
     | (go_at_fn 36; refine (HG.out _ (a_9 hr2 hw0)).mono ?_; rintro e w' ⟨rfl, rfl⟩)
     | (at_lookup; refine a_p _ rfl _ _ rfl b (n + k) L s rfl rfl (HS.out.kept hr2 hbl) hsl true hdd ?_))
    exact k_1
   by_cases hv : v = 0
   rotate_left
   ·have hvb : (v != 0) = true := by simpa using hv
    refine o_D ?_; intro HR HV0; clear HT HF HN hv
    go_wp2_with (first
     | (go_at_fn 57; refine (HNm.out _).mono ?_; rintro e w1 ⟨rfl, hb1⟩; have hx1 := a_1 hbox s_ hb1; have hr1 := a_9 hb1 HAL.out)
     | (go_at_call 59; refine (HQ.out _ (a_9 hr1 hw0)).mono ?_; rintro e w2 ⟨rfl, hb2⟩; have hx2 := a_1 hx1 s_ hb2; have hr2 := a_9 hb2 hr1)
     | (go_at_fn 36; refine (HG.out _ (a_9 hr2 hw0)).mono ?_; rintro e w' ⟨rfl, rfl⟩)
     | (at_lookup; refine a_p _ rfl _ _ rfl b (n + k) L s rfl rfl (HS.out.kept hr2 hbl) hsl false hdd ?_)
     | (at_mapUpdate; refine a_P _ rfl _ _ _ rfl b (n + k) L s rfl rfl rfl (HS.out.kept hr2 hbl) x_ hsl ?_; intro w4 hs4 hg4; have hh3 := a_y hx2 (Nat.lt_succ_self _); have hh4 := (hg4.block _ (a_6 hh3) m_).trans hh3; have HS4 := a_2 hs4; have HG4 := a_2 ((hfin _ hr2).trans hg4); have hw4 := (a_9 hr2 hw0).grown hg4 (a_9 hr2 hw0).size (fun j hj => by cases hj; exact hbb); have d0 : w4.cell? ⟨wr.heap.size, 0, none⟩ = some (str s) := a_0 hh4 0; have d1 : w4.cell? ⟨wr.heap.size, 1, none⟩ = some (str t1) := a_0 hh4 1; clear hs4 hg4 hh3 hh4)
     | (go_at_fn 58; refine (HOw.out _ hw4).mono ?_; rintro e w5 ⟨rfl, hb5⟩))
    exact o_l
   ·subst hv
    refine k_m ?_; intro HR; clear HT HF HN
    go_wp2_with (first
     | (go_at_fn 57; refine (HNm.out _).mono ?_; rintro e w1 ⟨rfl, hb1⟩; have hx1 := a_1 hbox s_ hb1; have hr1 := a_9 hb1 HAL.out)
     | (go_at_call 59; refine (HQ.out _ (a_9 hr1 hw0)).mono ?_; rintro e w2 ⟨rfl, hb2⟩; have hx2 := a_1 hx1 s_ hb2; have hr2 := a_9 hb2 hr1)
     | (go_at_fn 36; refine (HG.out _ (a_9 hr2 hw0)).mono ?_; rintro e w' ⟨rfl, rfl⟩)
     | (at_lookup; refine a_p _ rfl _ _ rfl b (n + k) L s rfl rfl (HS.out.kept hr2 hbl) hsl false hdd ?_)
     | (at_mapUpdate; refine a_P _ rfl _ _ _ rfl b (n + k) L s rfl rfl rfl (HS.out.kept hr2 hbl) x_ hsl ?_; intro w4 hs4 hg4; have hh3 := a_y hx2 (Nat.lt_succ_self _); have hh4 := (hg4.block _ (a_6 hh3) m_).trans hh3; have HS4 := a_2 hs4; have HG4 := a_2 ((hfin _ hr2).trans hg4); have hw4 := (a_9 hr2 hw0).grown hg4 (a_9 hr2 hw0).size (fun j hj => by cases hj; exact hbb); have d0 : w4.cell? ⟨wr.heap.size, 0, none⟩ = some (str s) := a_0 hh4 0; have d1 : w4.cell? ⟨wr.heap.size, 1, none⟩ = some (str t1) := a_0 hh4 1; clear hs4 hg4 hh3 hh4)
     | (go_at_fn 58; refine (HOw.out _ hw4).mono ?_; rintro e w5 ⟨rfl, hb5⟩))
    exact o_m
  ·obtain rfl : k = xs.length := by omega
   refine i_2 ?_; intro HR; have HS9 := HS.out; rw [List.take_of_length_le s_] at HS9; have HS8 := a_2 HS9
   go_wp2
   exact o_j
set_option maxRecDepth 512
theorem l_W (s : a_3) (t1 : a_3) (i2 : Int) (S3 : Option Addr) (m3 c3 : Nat) (t4 : a_3) (S5 : Option Addr) (m5 c5 : Nat) (i6 : Int) (i7 : Int) (S8 : Option Addr) (m8 c8 : Nat) (i9 : Int) (i10 : Int) (i11 : Int) (i12 : Int) (i13 : Int) (w : World) : Calls prog 62 #[.agg #[str s, str t1, .int .i64 i2, .slice S3 m3 c3, str t4, .slice S5 m5 c5, .int .i64 i6, .int .i64 i7, .slice S8 m8 c8, .int .i64 i9, .int .i64 i10, .int .i64 i11, .int .i64 i12, .int .i64 i13]] w fun e w' => e = .returned (str s) ∧ Below w.heap.size w w' := by
 go_enter func62, ntmps62
 go_wp2
 exact k_t
set_option maxRecDepth 100000
theorem n_T (A : Option Addr) (xs : List Chk) (c b n : Nat) (before : List a_3) (w0 w : World) (hS : b_d w b n before) (hn : n ≤ 1000) (hb0 : Below w0.heap.size w0 w) (hbb : w0.heap.size ≤ b) (hV : PjV w0) (hA : a_l 14 f_h w0 A xs)
  (hl : xs.length ≤ 8796093022208) (hok : ∀ z ∈ xs, z.ok) :
  Calls prog 61 #[.slice A xs.length c, .map (some b), .func (.func 62) #[] #[], .func (.func 36) #[] #[], .func (.func 63) #[] #[]] w fun e w' =>
   e = .returned (.int .i64 (a_A before (xs.map Chk.name) a_n (a_X xs e_x))) ∧ w.grownBy w' (some b) ∧ (a_A before (xs.map Chk.name) a_n (a_X xs e_x) = 0 → b_d w' b (n + xs.length) (before ++ (xs.map Chk.name))) := by
 by_cases h64 : 64 < xs.length
 ·have HE := a_2 (show a_A before (xs.map Chk.name) a_n (a_X xs e_x) = 2 from by unfold a_A; rw [if_pos (by simpa using h64)])
  go_enter func61, ntmps61
  go_wp2
  exact o_s
 have HE := a_2 (show a_A before (xs.map Chk.name) a_n (a_X xs e_x) = a_o (c_S before (xs.map Chk.name) a_n (a_X xs e_x)) xs.length from by unfold a_A; rw [if_neg (by simpa using h64), List.length_map])
 refine o_t ?_; intro HA HV HOk HB0 hbw HS0
 have eg1 : ∀ args W, (callFunc 62 args).run prog W = .ok (.enter 62 args) W := fun args W => by kernel_rfl
 refine p_5 ?_; intro eg2
 have eg3 : ∀ args W, (callFunc 63 args).run prog W = .ok (.enter 63 args) W := fun args W => by kernel_rfl
 clear hA hV hok hb0 hS
 go_enter func61, ntmps61
 go_wp2
 go_loopw [20] (fun i wr => ∃ k : Nat, k ≤ xs.length ∧ i = .int .i64 k ∧ Hid (∀ j, j < k → c_S before (xs.map Chk.name) a_n (a_X xs e_x) j = 0) ∧ Hid (b_d wr b (n + k) (before ++ (xs.map Chk.name).take k)) ∧ Hid (w.grownBy wr (some b))) (fun i _ => xs.length - (intOf i).toNat)
 case atStart => exact ⟨0, o_, rfl, a_2 fun j hj => absurd hj (Nat.not_lt_zero _), by simpa using HS0, g_ _ _⟩
 case round =>
  obtain ⟨k, hk, rfl, HZ, HS, HGr⟩ := hrel
  refine o_C ?_; intro hw0 hbl
  by_cases hlt : k < xs.length
  ·rcases HA.out with e | ⟨g, off, rfl, hg, hc⟩
   ·exact absurd hlt e_
   refine o_y ?_; intro vs hC hcs hcw; have hk2 : k < (xs.map Chk.name).length := by simpa using hlt
   have HT := a_2 (c_q (before := before) (names := (xs.map Chk.name)) (good := a_n) (own := a_X xs e_x) hk2 (by rw [List.getElem_map])); rw [c_n hlt] at HT; refine o_n ?_; intro hok1; have HTk := a_2 (show (xs.map Chk.name).take (k + 1) = (xs.map Chk.name).take k ++ [(xs[k]).name] from by rw [List.take_succ_eq_append_getElem hk2, List.getElem_map]); have HF := a_2 (fun x (e : c_S before (xs.map Chk.name) a_n (a_X xs e_x) k = x) (hx : x ≠ 0) => (HE.out.trans (a_q HZ.out (by rw [e]; exact hx) hlt)).trans e); have HN := a_2 (fun (e : c_S before (xs.map Chk.name) a_n (a_X xs e_x) k = 0) => a_T HZ.out e)
   have HO := a_2 (fun (x : Chk) (hx : xs[k] = x) (W : World) (hb : Below w0.heap.size w0 W) => show f_h w0 x vs → (x.ok) → Calls prog 63 #[.agg vs.toArray] W (fun e w' => e = .returned (.int .i64 (e_x x)) ∧ Below W.heap.size W w') from fun hC hk => by
    obtain ⟨a, b, c, h1, h2, h3, rfl⟩ := hC; have h9 := HV.out; have hV := h9
    exact f_y x a b c W (hV.words.below hb) (h1.below hb) (h2.below hb) (h3.below hb) hk)
   refine p_o ?_; intro HO2 hsl; clear HO hc hcs
   have hvs : ∃ (t1 : a_3) (i2 : Int) (S3 : Option Addr) (m3 c3 : Nat) (t4 : a_3) (S5 : Option Addr) (m5 c5 : Nat) (i6 : Int) (i7 : Int) (S8 : Option Addr) (m8 c8 : Nat) (i9 : Int) (i10 : Int) (i11 : Int) (i12 : Int) (i13 : Int), vs = [str (xs[k]).name, str t1, .int .i64 i2, .slice S3 m3 c3, str t4, .slice S5 m5 c5, .int .i64 i6, .int .i64 i7, .slice S8 m8 c8, .int .i64 i9, .int .i64 i10, .int .i64 i11, .int .i64 i12, .int .i64 i13] := by
    obtain ⟨a, b, c, h1, h2, h3, rfl⟩ := hC; exact q_Q
   obtain ⟨t1, i2, S3, m3, c3, t4, S5, m5, c5, i6, i7, S8, m8, c8, i9, i10, i11, i12, i13, rfl⟩ := hvs; clear hC; have e0 : wr.cell? ⟨g, off + k * 14, none⟩ = some (str (xs[k]).name) := by simpa using hcw 0 s_
   refine _ab ?_; intro e1 e2 e3 e4 e5 e6 e7 e8 e9 e10 e11 e12 e13; clear hcw hok1; generalize (xs[k]).name = s at *; generalize e_x xs[k] = v at *; refine p_z ?_; intro HQ HG; have HNm := a_2 (fun W => l_W s t1 i2 S3 m3 c3 t4 S5 m5 c5 i6 i7 S8 m8 c8 i9 i10 i11 i12 i13 W); have HAL := a_2 (show Below wr.heap.size wr (wr.alloc (.cells #[str s, str t1, .int .i64 i2, .slice S3 m3 c3, str t4, .slice S5 m5 c5, .int .i64 i6, .int .i64 i7, .slice S8 m8 c8, .int .i64 i9, .int .i64 i10, .int .i64 i11, .int .i64 i12, .int .i64 i13] 67)) from zX); have hbox : Below (wr.heap.size + 1) (wr.alloc (.cells #[str s, str t1, .int .i64 i2, .slice S3 m3 c3, str t4, .slice S5 m5 c5, .int .i64 i6, .int .i64 i7, .slice S8 m8 c8, .int .i64 i9, .int .i64 i10, .int .i64 i11, .int .i64 i12, .int .i64 i13] 67)) (wr.alloc (.cells #[str s, str t1, .int .i64 i2, .slice S3 m3 c3, str t4, .slice S5 m5 c5, .int .i64 i6, .int .i64 i7, .slice S8 m8 c8, .int .i64 i9, .int .i64 i10, .int .i64 i11, .int .i64 i12, .int .i64 i13] 67)) := b_ _ _; unfold a_L at HQ; rw [show a_n s = true from rfl] at HT; have HL := a_2 (show (before ++ (xs.map Chk.name).take k) ++ [s] = before ++ (xs.map Chk.name).take (k + 1) from by rw [HTk.out, List.append_assoc]); clear HTk; generalize before ++ (xs.map Chk.name).take k = L at *; generalize hdd : decide (s ∈ L) = dd at *; generalize qlB s = q at *; refine o_H ?_; intro hfin; have HOw := a_2 (show ∀ W, Below w0.heap.size w0 W → Calls prog 63 #[.agg #[str s, str t1, .int .i64 i2, .slice S3 m3 c3, str t4, .slice S5 m5 c5, .int .i64 i6, .int .i64 i7, .slice S8 m8 c8, .int .i64 i9, .int .i64 i10, .int .i64 i11, .int .i64 i12, .int .i64 i13]] W (fun e w' => e = .returned (.int .i64 v) ∧ Below W.heap.size W w') from HO2.out); clear HO2 HOk
   cases q
   ·rw [if_neg s_] at HQ
    refine _ah ?_; intro HR; clear HT HF HN
    go_wp2_with (first
     | (go_at_fn 62; refine (HNm.out _).mono ?_; rintro e w1 ⟨rfl, hb1⟩; have hx1 := a_1 hbox s_ hb1; have hr1 := a_9 hb1 HAL.out)
     | (go_at_call 59; refine (HQ.out _ (a_9 hr1 hw0)).mono ?_; rintro e w2 ⟨rfl, hb2⟩; have hx2 := a_1 hx1 s_ hb2; have hr2 := a_9 hb2 hr1))
    exact k_1
   rw [if_pos rfl] at HQ
   cases dd
   rotate_left
   ·have HR := a_2 (HF.out 6 (by rw [HT.out]; simp [a_c]) d_)
    clear HT HF HN
    go_wp2_with (first
     | (go_at_fn 62; refine (HNm.out _).mono ?_; rintro e w1 ⟨rfl, hb1⟩; have hx1 := a_1 hbox s_ hb1; have hr1 := a_9 hb1 HAL.out)
     | (go_at_call 59; refine (HQ.out _ (a_9 hr1 hw0)).mono ?_; rintro e w2 ⟨rfl, hb2⟩; have hx2 := a_1 hx1 s_ hb2; have hr2 := a_9 hb2 hr1)
     | (go_at_fn 36; refine (HG.out _ (a_9 hr2 hw0)).mono ?_; rintro e w' ⟨rfl, rfl⟩)
     | (at_lookup; refine a_p _ rfl _ _ rfl b (n + k) L s rfl rfl (HS.out.kept hr2 hbl) hsl true hdd ?_))
    exact k_1
   by_cases hv : v = 0
   rotate_left
   ·have hvb : (v != 0) = true := by simpa using hv
    refine o_D ?_; intro HR HV0; clear HT HF HN hv
    go_wp2_with (first
     | (go_at_fn 62; refine (HNm.out _).mono ?_; rintro e w1 ⟨rfl, hb1⟩; have hx1 := a_1 hbox s_ hb1; have hr1 := a_9 hb1 HAL.out)
     | (go_at_call 59; refine (HQ.out _ (a_9 hr1 hw0)).mono ?_; rintro e w2 ⟨rfl, hb2⟩; have hx2 := a_1 hx1 s_ hb2; have hr2 := a_9 hb2 hr1)
     | (go_at_fn 36; refine (HG.out _ (a_9 hr2 hw0)).mono ?_; rintro e w' ⟨rfl, rfl⟩)
     | (at_lookup; refine a_p _ rfl _ _ rfl b (n + k) L s rfl rfl (HS.out.kept hr2 hbl) hsl false hdd ?_)
     | (at_mapUpdate; refine a_P _ rfl _ _ _ rfl b (n + k) L s rfl rfl rfl (HS.out.kept hr2 hbl) x_ hsl ?_; intro w4 hs4 hg4; have hh3 := a_y hx2 (Nat.lt_succ_self _); have hh4 := (hg4.block _ (a_6 hh3) m_).trans hh3; have HS4 := a_2 hs4; have HG4 := a_2 ((hfin _ hr2).trans hg4); have hw4 := (a_9 hr2 hw0).grown hg4 (a_9 hr2 hw0).size (fun j hj => by cases hj; exact hbb); have d0 : w4.cell? ⟨wr.heap.size, 0, none⟩ = some (str s) := a_0 hh4 0; have d1 : w4.cell? ⟨wr.heap.size, 1, none⟩ = some (str t1) := a_0 hh4 1; have d2 : w4.cell? ⟨wr.heap.size, 2, none⟩ = some (.int .i64 i2) := a_0 hh4 2; have d3 : w4.cell? ⟨wr.heap.size, 3, none⟩ = some (.slice S3 m3 c3) := a_0 hh4 3; have d4 : w4.cell? ⟨wr.heap.size, 4, none⟩ = some (str t4) := a_0 hh4 4; have d5 : w4.cell? ⟨wr.heap.size, 5, none⟩ = some (.slice S5 m5 c5) := a_0 hh4 5; have d6 : w4.cell? ⟨wr.heap.size, 6, none⟩ = some (.int .i64 i6) := a_0 hh4 6; have d7 : w4.cell? ⟨wr.heap.size, 7, none⟩ = some (.int .i64 i7) := a_0 hh4 7; have d8 : w4.cell? ⟨wr.heap.size, 8, none⟩ = some (.slice S8 m8 c8) := a_0 hh4 8; have d9 : w4.cell? ⟨wr.heap.size, 9, none⟩ = some (.int .i64 i9) := a_0 hh4 9; have d10 : w4.cell? ⟨wr.heap.size, 10, none⟩ = some (.int .i64 i10) := a_0 hh4 10; have d11 : w4.cell? ⟨wr.heap.size, 11, none⟩ = some (.int .i64 i11) := a_0 hh4 11; have d12 : w4.cell? ⟨wr.heap.size, 12, none⟩ = some (.int .i64 i12) := a_0 hh4 12; have d13 : w4.cell? ⟨wr.heap.size, 13, none⟩ = some (.int .i64 i13) := a_0 hh4 13; clear hs4 hg4 hh3 hh4)
     | (go_at_fn 63; refine (HOw.out _ hw4).mono ?_; rintro e w5 ⟨rfl, hb5⟩))
    exact o_l
   ·subst hv
    refine k_m ?_; intro HR; clear HT HF HN
    go_wp2_with (first
     | (go_at_fn 62; refine (HNm.out _).mono ?_; rintro e w1 ⟨rfl, hb1⟩; have hx1 := a_1 hbox s_ hb1; have hr1 := a_9 hb1 HAL.out)
     | (go_at_call 59; refine (HQ.out _ (a_9 hr1 hw0)).mono ?_; rintro e w2 ⟨rfl, hb2⟩; have hx2 := a_1 hx1 s_ hb2; have hr2 := a_9 hb2 hr1)
     | (go_at_fn 36; refine (HG.out _ (a_9 hr2 hw0)).mono ?_; rintro e w' ⟨rfl, rfl⟩)
     | (at_lookup; refine a_p _ rfl _ _ rfl b (n + k) L s rfl rfl (HS.out.kept hr2 hbl) hsl false hdd ?_)
     | (at_mapUpdate; refine a_P _ rfl _ _ _ rfl b (n + k) L s rfl rfl rfl (HS.out.kept hr2 hbl) x_ hsl ?_; intro w4 hs4 hg4; have hh3 := a_y hx2 (Nat.lt_succ_self _); have hh4 := (hg4.block _ (a_6 hh3) m_).trans hh3; have HS4 := a_2 hs4; have HG4 := a_2 ((hfin _ hr2).trans hg4); have hw4 := (a_9 hr2 hw0).grown hg4 (a_9 hr2 hw0).size (fun j hj => by cases hj; exact hbb); have d0 : w4.cell? ⟨wr.heap.size, 0, none⟩ = some (str s) := a_0 hh4 0; have d1 : w4.cell? ⟨wr.heap.size, 1, none⟩ = some (str t1) := a_0 hh4 1; have d2 : w4.cell? ⟨wr.heap.size, 2, none⟩ = some (.int .i64 i2) := a_0 hh4 2; have d3 : w4.cell? ⟨wr.heap.size, 3, none⟩ = some (.slice S3 m3 c3) := a_0 hh4 3; have d4 : w4.cell? ⟨wr.heap.size, 4, none⟩ = some (str t4) := a_0 hh4 4; have d5 : w4.cell? ⟨wr.heap.size, 5, none⟩ = some (.slice S5 m5 c5) := a_0 hh4 5; have d6 : w4.cell? ⟨wr.heap.size, 6, none⟩ = some (.int .i64 i6) := a_0 hh4 6; have d7 : w4.cell? ⟨wr.heap.size, 7, none⟩ = some (.int .i64 i7) := a_0 hh4 7; have d8 : w4.cell? ⟨wr.heap.size, 8, none⟩ = some (.slice S8 m8 c8) := a_0 hh4 8; have d9 : w4.cell? ⟨wr.heap.size, 9, none⟩ = some (.int .i64 i9) := a_0 hh4 9; have d10 : w4.cell? ⟨wr.heap.size, 10, none⟩ = some (.int .i64 i10) := a_0 hh4 10; have d11 : w4.cell? ⟨wr.heap.size, 11, none⟩ = some (.int .i64 i11) := a_0 hh4 11; have d12 : w4.cell? ⟨wr.heap.size, 12, none⟩ = some (.int .i64 i12) := a_0 hh4 12; have d13 : w4.cell? ⟨wr.heap.size, 13, none⟩ = some (.int .i64 i13) := a_0 hh4 13; clear hs4 hg4 hh3 hh4)
     | (go_at_fn 63; refine (HOw.out _ hw4).mono ?_; rintro e w5 ⟨rfl, hb5⟩))
    exact o_m
  ·obtain rfl : k = xs.length := by omega
   refine i_2 ?_; intro HR; have HS9 := HS.out; rw [List.take_of_length_le s_] at HS9; have HS8 := a_2 HS9
   go_wp2
   exact o_j
structure Dfs.few (d : Dfs) : Prop where
 fz : d.zones.length ≤ 64
 fs : d.srcs.length ≤ 64
 fm : d.macs.length ≤ 64
 fd : d.mdls.length ≤ 64
 fn : d.snps.length ≤ 64
 fc : d.chks.length ≤ 64
def Dfs.kindN (d : Dfs) (k : Int) : List a_3 :=
 if k = 0 then [] ++ d.zones.map Zon.name else if k = 1 then (([] ++ d.srcs.map Srx.name) ++ d.mdls.map Mdl.name) ++ d.snps.map Snp.name else if k = 2 then [] ++ d.macs.map Mac.name else [] ++ d.chks.map Chk.name
set_option maxRecDepth 100000
theorem o_a (d : Dfs) (a : DAdr) (w : World) (hS : d.Sl w a) (hf : d.few) :
  Calls prog 91 #[.agg #[slV a.z d.zones.length, slV a.s d.srcs.length, slV a.m d.macs.length, slV a.d d.mdls.length, slV a.n d.snps.length, slV a.c d.chks.length], .int .i64 0] w fun e w' => c_o w w' (d.kindN 0) e ∧ Below w.heap.size w w' := by
 refine l_R ?_; intro i0 hi hz0 hz1 hz2
 obtain ⟨f1, f2, f3, f4, f5, f6⟩ := hf
 refine o_K ?_; intro Hz Hs Hm Hd Hn Hc
 clear hS
 obtain ⟨zs, ss, ms, ds, ns, cs⟩ := d
 obtain ⟨⟨zsA, zsC⟩, ⟨ssA, ssC⟩, ⟨msA, msC⟩, ⟨dsA, dsC⟩, ⟨nsA, nsC⟩, ⟨csA, csC⟩⟩ := a
 simp only at *
 unfold c_o
 refine n_k ?_; intro hx0
 rw [show Dfs.kindN ⟨zs, ss, ms, ds, ns, cs⟩ 0 = ([] ++ zs.map Zon.name) from rfl]
 go_enter func91, ntmps91
 go_wp2_with fail
 all_goals first | (exfalso; omega) | skip
 go_loopw [5, 6] (fun acc i wr => ∃ (k : Nat) (B : Option Addr) (d : Nat), acc = .slice B (([] : List a_3) ++ (zs.map Zon.name).take k).length d ∧ i = .int .i64 k ∧ k ≤ zs.length ∧
   Hid (wr.ownsRow (w.heap.size + 1) 9 1 (.slice B (([] : List a_3) ++ (zs.map Zon.name).take k).length d) (([] : List a_3) ++ (zs.map Zon.name).take k).length ((([] : List a_3) ++ (zs.map Zon.name).take k).map str)) ∧ Below (w.heap.size + 1) (w.alloc (.cells #[.slice zsA zs.length zsC, .slice ssA ss.length ssC, .slice msA ms.length msC, .slice dsA ds.length dsC, .slice nsA ns.length nsC, .slice csA cs.length csC] 34)) wr) (fun acc i _ => zs.length - (intOf i).toNat)
 case atStart => exact ⟨0, none, 0, rfl, rfl, o_, a_2 (b_f _ _ _ _), hx0⟩
 case round =>
  clear hx0
  obtain ⟨k, B, d, rfl, rfl, hk, HO, hx⟩ := hrel
  refine k_h ?_; intro b0 b1 b2 b3 b4 b5 hlw hr
  have hlk : (([] : List a_3) ++ (zs.map Zon.name).take k).length ≤ 300 := by simp only [List.length_append, List.length_take, List.length_map, List.length_nil]; omega
  by_cases hlt : k < zs.length
  ·rcases Hz.out.below g_a.kept hr with e | ⟨g, off, rfl, hg, hc⟩
   ·exact absurd hlt e_
   obtain ⟨vs, hC, hcs⟩ := hc k hlt; have hk2 : k < (zs.map Zon.name).length := by simpa using hlt
   have HTk := a_2 (show ([] : List a_3) ++ (zs.map Zon.name).take (k + 1) = (([] : List a_3) ++ (zs.map Zon.name).take k) ++ [(zs[k]).name] from by rw [List.take_succ_eq_append_getElem hk2, List.getElem_map]; simp only [List.append_assoc])
   have e0 : wr.cell? ⟨g, off + k * 3, none⟩ = some (str (zs[k]).name) := by
    obtain ⟨a, h1, rfl⟩ := hC
    simpa using hcs 0 s_
   clear hC hc hcs; generalize (zs[k]).name = S at *; generalize hP : ([] : List a_3) ++ (zs.map Zon.name).take k = P at *; clear hP
   go_wp2_with (at_builtin; refine wpList_append_own _ rfl _ _ 26 rfl (w.heap.size + 1) 9 i0 _ 1 16 underlying26 hi hz0 hz1 hz2 rfl d_ _ _ _ rfl (a_g HO.out ((b_ _ _).alloc (l_ _) _)) ⟨wr.heap.size, 0, none⟩ 1 1 [str S] rfl rfl (by exact b_3 (by have := heap_alloc_new wr (.cells #[str S] 9); simpa using this)) c_ x_ o_ m_ ?_; intro v' w3 hown3 hgrow _)
   all_goals
    obtain ⟨B3, d3, rfl⟩ := a_j hown3; refine o_q ?_; intro hx3; refine l_b ?_; intro e1 e2 HFin; clear hown3 hgrow e1
    go_wp2
    exact o_B
  obtain rfl : k = zs.length := by omega
  have HO9 := HO.out
  rw [List.take_of_length_le (show (zs.map Zon.name).length ≤ zs.length by simp)] at HO9 hlk ⊢
  replace HO := a_2 HO9
  clear HO9 hk hlt hlk
  go_wp2_with fail
  exact q_1
theorem n_X (d : Dfs) (a : DAdr) (w : World) (hS : d.Sl w a) (hf : d.few) :
  Calls prog 91 #[.agg #[slV a.z d.zones.length, slV a.s d.srcs.length, slV a.m d.macs.length, slV a.d d.mdls.length, slV a.n d.snps.length, slV a.c d.chks.length], .int .i64 1] w fun e w' => c_o w w' (d.kindN 1) e ∧ Below w.heap.size w w' := by
 refine l_R ?_; intro i0 hi hz0 hz1 hz2
 obtain ⟨f1, f2, f3, f4, f5, f6⟩ := hf
 refine o_K ?_; intro Hz Hs Hm Hd Hn Hc
 clear hS
 obtain ⟨zs, ss, ms, ds, ns, cs⟩ := d
 obtain ⟨⟨zsA, zsC⟩, ⟨ssA, ssC⟩, ⟨msA, msC⟩, ⟨dsA, dsC⟩, ⟨nsA, nsC⟩, ⟨csA, csC⟩⟩ := a
 simp only at *
 unfold c_o
 refine n_k ?_; intro hx0
 rw [show Dfs.kindN ⟨zs, ss, ms, ds, ns, cs⟩ 1 = ((([] ++ ss.map Srx.name) ++ ds.map Mdl.name) ++ ns.map Snp.name) from rfl]
 go_enter func91, ntmps91
 go_wp2_with fail
 all_goals first | (exfalso; omega) | skip
 go_loopw [5, 7] (fun acc i wr => ∃ (k : Nat) (B : Option Addr) (d : Nat), acc = .slice B (([] : List a_3) ++ (ss.map Srx.name).take k).length d ∧ i = .int .i64 k ∧ k ≤ ss.length ∧
   Hid (wr.ownsRow (w.heap.size + 1) 9 1 (.slice B (([] : List a_3) ++ (ss.map Srx.name).take k).length d) (([] : List a_3) ++ (ss.map Srx.name).take k).length ((([] : List a_3) ++ (ss.map Srx.name).take k).map str)) ∧ Below (w.heap.size + 1) (w.alloc (.cells #[.slice zsA zs.length zsC, .slice ssA ss.length ssC, .slice msA ms.length msC, .slice dsA ds.length dsC, .slice nsA ns.length nsC, .slice csA cs.length csC] 34)) wr) (fun acc i _ => ss.length - (intOf i).toNat)
 case atStart => exact ⟨0, none, 0, rfl, rfl, o_, a_2 (b_f _ _ _ _), hx0⟩
 case round =>
  clear hx0
  obtain ⟨k, B, d, rfl, rfl, hk, HO, hx⟩ := hrel
  refine k_h ?_; intro b0 b1 b2 b3 b4 b5 hlw hr
  have hlk : (([] : List a_3) ++ (ss.map Srx.name).take k).length ≤ 300 := by simp only [List.length_append, List.length_take, List.length_map, List.length_nil]; omega
  by_cases hlt : k < ss.length
  ·rcases Hs.out.below h_f.kept hr with e | ⟨g, off, rfl, hg, hc⟩
   ·exact absurd hlt e_
   obtain ⟨vs, hC, hcs⟩ := hc k hlt; have hk2 : k < (ss.map Srx.name).length := by simpa using hlt
   have HTk := a_2 (show ([] : List a_3) ++ (ss.map Srx.name).take (k + 1) = (([] : List a_3) ++ (ss.map Srx.name).take k) ++ [(ss[k]).name] from by rw [List.take_succ_eq_append_getElem hk2, List.getElem_map]; simp only [List.append_assoc])
   have e0 : wr.cell? ⟨g, off + k * 7, none⟩ = some (str (ss[k]).name) := by
    obtain ⟨a, b, h1, h2, rfl⟩ := hC
    simpa using hcs 0 s_
   clear hC hc hcs; generalize (ss[k]).name = S at *; generalize hP : ([] : List a_3) ++ (ss.map Srx.name).take k = P at *; clear hP
   go_wp2_with (at_builtin; refine wpList_append_own _ rfl _ _ 26 rfl (w.heap.size + 1) 9 i0 _ 1 16 underlying26 hi hz0 hz1 hz2 rfl d_ _ _ _ rfl (a_g HO.out ((b_ _ _).alloc (l_ _) _)) ⟨wr.heap.size, 0, none⟩ 1 1 [str S] rfl rfl (by exact b_3 (by have := heap_alloc_new wr (.cells #[str S] 9); simpa using this)) c_ x_ o_ m_ ?_; intro v' w3 hown3 hgrow _)
   all_goals
    obtain ⟨B3, d3, rfl⟩ := a_j hown3; refine o_q ?_; intro hx3; refine l_b ?_; intro e1 e2 HFin; clear hown3 hgrow e1
    go_wp2
    exact o_B
  obtain rfl : k = ss.length := by omega
  have HO9 := HO.out
  rw [List.take_of_length_le (show (ss.map Srx.name).length ≤ ss.length by simp)] at HO9 hlk ⊢
  replace HO := a_2 HO9
  clear HO9 hk hlt hlk
  go_wp2_with fail
  all_goals first | (exfalso; omega) | skip
  go_loopw [5, 8] (fun acc i wr => ∃ (k : Nat) (B : Option Addr) (d : Nat), acc = .slice B ((([] : List a_3) ++ (ss.map Srx.name)) ++ (ds.map Mdl.name).take k).length d ∧ i = .int .i64 k ∧ k ≤ ds.length ∧
    Hid (wr.ownsRow (w.heap.size + 1) 9 1 (.slice B ((([] : List a_3) ++ (ss.map Srx.name)) ++ (ds.map Mdl.name).take k).length d) ((([] : List a_3) ++ (ss.map Srx.name)) ++ (ds.map Mdl.name).take k).length (((([] : List a_3) ++ (ss.map Srx.name)) ++ (ds.map Mdl.name).take k).map str)) ∧ Below (w.heap.size + 1) (w.alloc (.cells #[.slice zsA zs.length zsC, .slice ssA ss.length ssC, .slice msA ms.length msC, .slice dsA ds.length dsC, .slice nsA ns.length nsC, .slice csA cs.length csC] 34)) wr) (fun acc i _ => ds.length - (intOf i).toNat)
  case atStart => exact ⟨0, B, d, s_, rfl, o_, a_2 (by simpa using HO.out), hx⟩
  case round =>
   clear b0 b1 b2 b3 b4 b5 hlw hr hx HO; obtain ⟨k, B, d, rfl, rfl, hk, HO, hx⟩ := hrel; refine k_h ?_; intro b0 b1 b2 b3 b4 b5 hlw hr; have hlk : ((([] : List a_3) ++ (ss.map Srx.name)) ++ (ds.map Mdl.name).take k).length ≤ 300 := by simp only [List.length_append, List.length_take, List.length_map, List.length_nil]; omega
   by_cases hlt : k < ds.length
   ·rcases Hd.out.below f_I.kept hr with e | ⟨g, off, rfl, hg, hc⟩
    ·exact absurd hlt e_
    obtain ⟨vs, hC, hcs⟩ := hc k hlt; have hk2 : k < (ds.map Mdl.name).length := by simpa using hlt
    have HTk := a_2 (show (([] : List a_3) ++ (ss.map Srx.name)) ++ (ds.map Mdl.name).take (k + 1) = ((([] : List a_3) ++ (ss.map Srx.name)) ++ (ds.map Mdl.name).take k) ++ [(ds[k]).name] from by rw [List.take_succ_eq_append_getElem hk2, List.getElem_map]; simp only [List.append_assoc])
    have e0 : wr.cell? ⟨g, off + k * 8, none⟩ = some (str (ds[k]).name) := by
     obtain ⟨a, b, h1, h2, rfl⟩ := hC
     simpa using hcs 0 s_
    clear hC hc hcs; generalize (ds[k]).name = S at *; generalize hP : (([] : List a_3) ++ (ss.map Srx.name)) ++ (ds.map Mdl.name).take k = P at *; clear hP
    go_wp2_with (at_builtin; refine wpList_append_own _ rfl _ _ 26 rfl (w.heap.size + 1) 9 i0 _ 1 16 underlying26 hi hz0 hz1 hz2 rfl d_ _ _ _ rfl (a_g HO.out ((b_ _ _).alloc (l_ _) _)) ⟨wr.heap.size, 0, none⟩ 1 1 [str S] rfl rfl (by exact b_3 (by have := heap_alloc_new wr (.cells #[str S] 9); simpa using this)) c_ x_ o_ m_ ?_; intro v' w3 hown3 hgrow _)
    all_goals
     obtain ⟨B3, d3, rfl⟩ := a_j hown3; refine o_q ?_; intro hx3; refine l_b ?_; intro e1 e2 HFin; clear hown3 hgrow e1
     go_wp2
     exact o_B
   obtain rfl : k = ds.length := by omega
   have HO9 := HO.out; rw [List.take_of_length_le (show (ds.map Mdl.name).length ≤ ds.length by simp)] at HO9 hlk ⊢; replace HO := a_2 HO9; clear HO9 hk hlt hlk
   go_wp2_with fail
   all_goals first | (exfalso; omega) | skip
   go_loopw [5, 9] (fun acc i wr => ∃ (k : Nat) (B : Option Addr) (d : Nat), acc = .slice B (((([] : List a_3) ++ (ss.map Srx.name)) ++ (ds.map Mdl.name)) ++ (ns.map Snp.name).take k).length d ∧ i = .int .i64 k ∧ k ≤ ns.length ∧
     Hid (wr.ownsRow (w.heap.size + 1) 9 1 (.slice B (((([] : List a_3) ++ (ss.map Srx.name)) ++ (ds.map Mdl.name)) ++ (ns.map Snp.name).take k).length d) (((([] : List a_3) ++ (ss.map Srx.name)) ++ (ds.map Mdl.name)) ++ (ns.map Snp.name).take k).length ((((([] : List a_3) ++ (ss.map Srx.name)) ++ (ds.map Mdl.name)) ++ (ns.map Snp.name).take k).map str)) ∧ Below (w.heap.size + 1) (w.alloc (.cells #[.slice zsA zs.length zsC, .slice ssA ss.length ssC, .slice msA ms.length msC, .slice dsA ds.length dsC, .slice nsA ns.length nsC, .slice csA cs.length csC] 34)) wr) (fun acc i _ => ns.length - (intOf i).toNat)
   case atStart => exact ⟨0, B, d, s_, rfl, o_, a_2 (by simpa using HO.out), hx⟩
   case round =>
    clear b0 b1 b2 b3 b4 b5 hlw hr hx HO; obtain ⟨k, B, d, rfl, rfl, hk, HO, hx⟩ := hrel; refine k_h ?_; intro b0 b1 b2 b3 b4 b5 hlw hr; have hlk : (((([] : List a_3) ++ (ss.map Srx.name)) ++ (ds.map Mdl.name)) ++ (ns.map Snp.name).take k).length ≤ 300 := by simp only [List.length_append, List.length_take, List.length_map, List.length_nil]; omega
    by_cases hlt : k < ns.length
    ·rcases Hn.out.below i_i.kept hr with e | ⟨g, off, rfl, hg, hc⟩
     ·exact absurd hlt e_
     obtain ⟨vs, hC, hcs⟩ := hc k hlt; have hk2 : k < (ns.map Snp.name).length := by simpa using hlt
     have HTk := a_2 (show ((([] : List a_3) ++ (ss.map Srx.name)) ++ (ds.map Mdl.name)) ++ (ns.map Snp.name).take (k + 1) = (((([] : List a_3) ++ (ss.map Srx.name)) ++ (ds.map Mdl.name)) ++ (ns.map Snp.name).take k) ++ [(ns[k]).name] from by rw [List.take_succ_eq_append_getElem hk2, List.getElem_map]; simp only [List.append_assoc])
     have e0 : wr.cell? ⟨g, off + k * 2, none⟩ = some (str (ns[k]).name) := by
      obtain rfl := hC
      simpa using hcs 0 s_
     clear hC hc hcs; generalize (ns[k]).name = S at *; generalize hP : ((([] : List a_3) ++ (ss.map Srx.name)) ++ (ds.map Mdl.name)) ++ (ns.map Snp.name).take k = P at *; clear hP
     go_wp2_with (at_builtin; refine wpList_append_own _ rfl _ _ 26 rfl (w.heap.size + 1) 9 i0 _ 1 16 underlying26 hi hz0 hz1 hz2 rfl d_ _ _ _ rfl (a_g HO.out ((b_ _ _).alloc (l_ _) _)) ⟨wr.heap.size, 0, none⟩ 1 1 [str S] rfl rfl (by exact b_3 (by have := heap_alloc_new wr (.cells #[str S] 9); simpa using this)) c_ x_ o_ m_ ?_; intro v' w3 hown3 hgrow _)
     all_goals
      obtain ⟨B3, d3, rfl⟩ := a_j hown3; refine o_q ?_; intro hx3; refine l_b ?_; intro e1 e2 HFin; clear hown3 hgrow e1
      go_wp2
      exact o_B
    obtain rfl : k = ns.length := by omega
    have HO9 := HO.out; rw [List.take_of_length_le (show (ns.map Snp.name).length ≤ ns.length by simp)] at HO9 hlk ⊢; replace HO := a_2 HO9; clear HO9 hk hlt hlk
    go_wp2_with fail
    exact q_1
theorem n_A (d : Dfs) (a : DAdr) (w : World) (hS : d.Sl w a) (hf : d.few) :
  Calls prog 91 #[.agg #[slV a.z d.zones.length, slV a.s d.srcs.length, slV a.m d.macs.length, slV a.d d.mdls.length, slV a.n d.snps.length, slV a.c d.chks.length], .int .i64 2] w fun e w' => c_o w w' (d.kindN 2) e ∧ Below w.heap.size w w' := by
 refine l_R ?_; intro i0 hi hz0 hz1 hz2
 obtain ⟨f1, f2, f3, f4, f5, f6⟩ := hf
 refine o_K ?_; intro Hz Hs Hm Hd Hn Hc
 clear hS
 obtain ⟨zs, ss, ms, ds, ns, cs⟩ := d
 obtain ⟨⟨zsA, zsC⟩, ⟨ssA, ssC⟩, ⟨msA, msC⟩, ⟨dsA, dsC⟩, ⟨nsA, nsC⟩, ⟨csA, csC⟩⟩ := a
 simp only at *
 unfold c_o
 refine n_k ?_; intro hx0
 rw [show Dfs.kindN ⟨zs, ss, ms, ds, ns, cs⟩ 2 = ([] ++ ms.map Mac.name) from rfl]
 go_enter func91, ntmps91
 go_wp2_with fail
 all_goals first | (exfalso; omega) | skip
 go_loopw [5, 10] (fun acc i wr => ∃ (k : Nat) (B : Option Addr) (d : Nat), acc = .slice B (([] : List a_3) ++ (ms.map Mac.name).take k).length d ∧ i = .int .i64 k ∧ k ≤ ms.length ∧
   Hid (wr.ownsRow (w.heap.size + 1) 9 1 (.slice B (([] : List a_3) ++ (ms.map Mac.name).take k).length d) (([] : List a_3) ++ (ms.map Mac.name).take k).length ((([] : List a_3) ++ (ms.map Mac.name).take k).map str)) ∧ Below (w.heap.size + 1) (w.alloc (.cells #[.slice zsA zs.length zsC, .slice ssA ss.length ssC, .slice msA ms.length msC, .slice dsA ds.length dsC, .slice nsA ns.length nsC, .slice csA cs.length csC] 34)) wr) (fun acc i _ => ms.length - (intOf i).toNat)
 case atStart => exact ⟨0, none, 0, rfl, rfl, o_, a_2 (b_f _ _ _ _), hx0⟩
 case round =>
  clear hx0
  obtain ⟨k, B, d, rfl, rfl, hk, HO, hx⟩ := hrel
  refine k_h ?_; intro b0 b1 b2 b3 b4 b5 hlw hr
  have hlk : (([] : List a_3) ++ (ms.map Mac.name).take k).length ≤ 300 := by simp only [List.length_append, List.length_take, List.length_map, List.length_nil]; omega
  by_cases hlt : k < ms.length
  ·rcases Hm.out.below f_J.kept hr with e | ⟨g, off, rfl, hg, hc⟩
   ·exact absurd hlt e_
   obtain ⟨vs, hC, hcs⟩ := hc k hlt; have hk2 : k < (ms.map Mac.name).length := by simpa using hlt
   have HTk := a_2 (show ([] : List a_3) ++ (ms.map Mac.name).take (k + 1) = (([] : List a_3) ++ (ms.map Mac.name).take k) ++ [(ms[k]).name] from by rw [List.take_succ_eq_append_getElem hk2, List.getElem_map]; simp only [List.append_assoc])
   have e0 : wr.cell? ⟨g, off + k * 3, none⟩ = some (str (ms[k]).name) := by
    obtain ⟨a, b, h1, h2, rfl⟩ := hC
    simpa using hcs 0 s_
   clear hC hc hcs; generalize (ms[k]).name = S at *; generalize hP : ([] : List a_3) ++ (ms.map Mac.name).take k = P at *; clear hP
   go_wp2_with (at_builtin; refine wpList_append_own _ rfl _ _ 26 rfl (w.heap.size + 1) 9 i0 _ 1 16 underlying26 hi hz0 hz1 hz2 rfl d_ _ _ _ rfl (a_g HO.out ((b_ _ _).alloc (l_ _) _)) ⟨wr.heap.size, 0, none⟩ 1 1 [str S] rfl rfl (by exact b_3 (by have := heap_alloc_new wr (.cells #[str S] 9); simpa using this)) c_ x_ o_ m_ ?_; intro v' w3 hown3 hgrow _)
   all_goals
    obtain ⟨B3, d3, rfl⟩ := a_j hown3; refine o_q ?_; intro hx3; refine l_b ?_; intro e1 e2 HFin; clear hown3 hgrow e1
    go_wp2
    exact o_B
  obtain rfl : k = ms.length := by omega
  have HO9 := HO.out
  rw [List.take_of_length_le (show (ms.map Mac.name).length ≤ ms.length by simp)] at HO9 hlk ⊢
  replace HO := a_2 HO9
  clear HO9 hk hlt hlk
  go_wp2_with fail
  exact q_1
theorem o_7 (d : Dfs) (a : DAdr) (w : World) (hS : d.Sl w a) (hf : d.few) :
  Calls prog 91 #[.agg #[slV a.z d.zones.length, slV a.s d.srcs.length, slV a.m d.macs.length, slV a.d d.mdls.length, slV a.n d.snps.length, slV a.c d.chks.length], .int .i64 3] w fun e w' => c_o w w' (d.kindN 3) e ∧ Below w.heap.size w w' := by
 refine l_R ?_; intro i0 hi hz0 hz1 hz2
 obtain ⟨f1, f2, f3, f4, f5, f6⟩ := hf
 refine o_K ?_; intro Hz Hs Hm Hd Hn Hc
 clear hS
 obtain ⟨zs, ss, ms, ds, ns, cs⟩ := d
 obtain ⟨⟨zsA, zsC⟩, ⟨ssA, ssC⟩, ⟨msA, msC⟩, ⟨dsA, dsC⟩, ⟨nsA, nsC⟩, ⟨csA, csC⟩⟩ := a
 simp only at *
 unfold c_o
 refine n_k ?_; intro hx0
 rw [show Dfs.kindN ⟨zs, ss, ms, ds, ns, cs⟩ 3 = ([] ++ cs.map Chk.name) from rfl]
 go_enter func91, ntmps91
 go_wp2_with fail
 all_goals first | (exfalso; omega) | skip
 go_loopw [5, 11] (fun acc i wr => ∃ (k : Nat) (B : Option Addr) (d : Nat), acc = .slice B (([] : List a_3) ++ (cs.map Chk.name).take k).length d ∧ i = .int .i64 k ∧ k ≤ cs.length ∧
   Hid (wr.ownsRow (w.heap.size + 1) 9 1 (.slice B (([] : List a_3) ++ (cs.map Chk.name).take k).length d) (([] : List a_3) ++ (cs.map Chk.name).take k).length ((([] : List a_3) ++ (cs.map Chk.name).take k).map str)) ∧ Below (w.heap.size + 1) (w.alloc (.cells #[.slice zsA zs.length zsC, .slice ssA ss.length ssC, .slice msA ms.length msC, .slice dsA ds.length dsC, .slice nsA ns.length nsC, .slice csA cs.length csC] 34)) wr) (fun acc i _ => cs.length - (intOf i).toNat)
 case atStart => exact ⟨0, none, 0, rfl, rfl, o_, a_2 (b_f _ _ _ _), hx0⟩
 case round =>
  clear hx0
  obtain ⟨k, B, d, rfl, rfl, hk, HO, hx⟩ := hrel
  refine k_h ?_; intro b0 b1 b2 b3 b4 b5 hlw hr
  have hlk : (([] : List a_3) ++ (cs.map Chk.name).take k).length ≤ 300 := by simp only [List.length_append, List.length_take, List.length_map, List.length_nil]; omega
  by_cases hlt : k < cs.length
  ·rcases Hc.out.below f_h.kept hr with e | ⟨g, off, rfl, hg, hc⟩
   ·exact absurd hlt e_
   obtain ⟨vs, hC, hcs⟩ := hc k hlt; have hk2 : k < (cs.map Chk.name).length := by simpa using hlt
   refine r_X ?_; intro HTk
   have e0 : wr.cell? ⟨g, off + k * 14, none⟩ = some (str (cs[k]).name) := by
    obtain ⟨a, b, c, h1, h2, h3, rfl⟩ := hC
    simpa using hcs 0 s_
   clear hC hc hcs; generalize (cs[k]).name = S at *; generalize hP : ([] : List a_3) ++ (cs.map Chk.name).take k = P at *; clear hP
   go_wp2_with (at_builtin; refine wpList_append_own _ rfl _ _ 26 rfl (w.heap.size + 1) 9 i0 _ 1 16 underlying26 hi hz0 hz1 hz2 rfl d_ _ _ _ rfl (a_g HO.out ((b_ _ _).alloc (l_ _) _)) ⟨wr.heap.size, 0, none⟩ 1 1 [str S] rfl rfl (by exact b_3 (by have := heap_alloc_new wr (.cells #[str S] 9); simpa using this)) c_ x_ o_ m_ ?_; intro v' w3 hown3 hgrow _)
   all_goals
    obtain ⟨B3, d3, rfl⟩ := a_j hown3; refine o_q ?_; intro hx3; refine l_b ?_; intro e1 e2 HFin; clear hown3 hgrow e1
    go_wp2
    exact o_B
  obtain rfl : k = cs.length := by omega
  have HO9 := HO.out
  rw [List.take_of_length_le (show (cs.map Chk.name).length ≤ cs.length by simp)] at HO9 hlk ⊢
  replace HO := a_2 HO9
  clear HO9 hk hlt hlk
  go_wp2_with fail
  exact q_1
set_option maxRecDepth 512
theorem g_H (d : Dfs) (a : DAdr) (kk : Int) (w : World) (hS : d.Sl w a) (hf : d.few) (h0 : 0 ≤ kk) (h3 : kk ≤ 3) :
  Calls prog 91 #[.agg #[slV a.z d.zones.length, slV a.s d.srcs.length, slV a.m d.macs.length, slV a.d d.mdls.length, slV a.n d.snps.length, slV a.c d.chks.length], .int .i64 kk] w fun e w' => c_o w w' (d.kindN kk) e ∧ Below w.heap.size w w' := by
 have hk : kk = 0 ∨ kk = 1 ∨ kk = 2 ∨ kk = 3 := by omega
 rcases hk with rfl | rfl | rfl | rfl
 ·exact o_a d a w hS hf
 ·exact n_X d a w hS hf
 ·exact n_A d a w hS hf
 ·exact o_7 d a w hS hf
end Go.Proofs.YtnpjibaolicbmaaGreatDoor
