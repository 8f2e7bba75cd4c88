/- Parts of the proof. -/
import Derived.Test.YtnpjibaolicbmaaGreatDoorPp21
import Derived.Test.YtnpjibaolicbmaaGreatDoorPp17
set_option linter.unusedVariables false
set_option linter.unusedSimpArgs false
set_option maxHeartbeats 2000000
namespace Go.Proofs.YtnpjibaolicbmaaGreatDoor
open Go.Proofs.Tryz
open Go.RowKit
theorem b_v (x : a_3) (w : World) (hW : a_v w 1 a_w) : Calls prog 22 #[str x] w fun e w' => e = .returned (.int .i64 (a_F x)) ∧ Below w.heap.size w w' := by
 have H1 := a_2 (fun W => a_Z ⟨x.toArray⟩ W)
 refine p_O ?_; intro H2
 have HE := a_2 (show a_F x = if (a_i 24 x && !c_T x) = true then 0 else 4 from rfl)
 rw [show bs ⟨x.toArray⟩ = x from rfl] at H1 H2
 clear hW
 generalize a_i 24 x = p at *
 generalize c_T x = q at *
 go_enter func22, ntmps22
 cases p <;> cases q
 all_goals
  go_wp2_with (first
   | (go_at_call 81; refine (H1.out _).mono ?_; rintro e w1 ⟨rfl, hb1⟩)
   | (go_at_call 82; refine (H2.out _ hb1).mono ?_; rintro e w' ⟨rfl, rfl⟩))
  exact m_o
theorem a_O (x : a_3) (w : World) (hW : a_v w 1 a_w) (hx : x.length ≤ maxLen) :
  Calls prog 59 #[str x] w fun e w' => e = .returned (.int .i64 (a_L x)) ∧ Below w.heap.size w w' := by
 have H1 := a_2 (fun W => b_c ⟨x.toArray⟩ W (by show x.toArray.size ≤ _; simpa using hx))
 refine p_O ?_; intro H2
 rw [show bs ⟨x.toArray⟩ = x from rfl] at H1 H2
 clear hW hx
 have HE := a_2 (show a_L x = if (b_4 24 x && !c_T x) = true then 0 else 4 from rfl)
 generalize a_L x = r at *
 generalize b_4 24 x = p at *
 generalize c_T x = q at *
 go_enter func59, ntmps59
 cases p <;> cases q
 all_goals
  go_wp2_with (first
   | (go_at_call 113; refine (H1.out _).mono ?_; rintro e w1 ⟨rfl, hb1⟩)
   | (go_at_call 82; refine (H2.out _ hb1).mono ?_; rintro e w' ⟨rfl, rfl⟩))
  exact m_o
set_option maxRecDepth 100000
theorem d_i (A : Option Addr) (l : List a_3) (c m : Nat) (w : World) (hW : a_v w 1 a_w) (h : b_b w A l) (hl : l.length ≤ 8796093022208) (hm : m ≤ 12) (hcp : l.length ≤ c) :
  Calls prog 98 #[.slice A l.length c, .int .i64 m] w fun e w' => e = .returned (.int .i64 (f_9 l m)) ∧ Below w.heap.size w w' := by
 have HA := a_2 h
 have HW := a_2 hW
 clear h hW
 by_cases h2 : m < l.length
 ·have HE := a_2 (show f_9 l m = 2 from by unfold f_9; rw [if_pos h2])
  go_enter func98, ntmps98
  go_wp2
  exact j_X
 have HE := a_2 (show f_9 l m = a_o (d_O l) l.length from by unfold f_9; rw [if_neg h2])
 go_enter func98, ntmps98
 go_wp2
 go_loopw [14] (fun i wr => ∃ k : Nat, k ≤ l.length ∧ i = .int .i64 k ∧ Hid (∀ j, j < k → d_O l j = 0) ∧ Below w.heap.size w wr) (fun i _ => l.length - (intOf i).toNat)
 case atStart => exact ⟨0, o_, rfl, fun j hj => absurd hj (Nat.not_lt_zero _), b_ _ _⟩
 case round =>
  obtain ⟨k, hk, rfl, HZ, hbel⟩ := hrel
  by_cases hlt : k < l.length
  ·rcases HA.out.below hbel with e | ⟨g, off, rfl, hg, hc⟩
   ·exact absurd hlt e_
   have c0 := hc k hlt; have HC := a_2 (b_v l[k] wr (HW.out.below hbel))
   have HH := a_2 (fun W (hb : Below wr.heap.size wr W) => by
    have := b_k (some ⟨g, off, none⟩) (l.take k) c l[k] W ((b_F hg hc k).below hb) (by rw [List.length_take]; omega); rw [List.length_take, Nat.min_eq_left (Nat.le_of_lt hlt)] at this
    exact this)
   have HT := a_2 (f_f hlt); refine p_S ?_; intro HF HN hkc; clear hc; unfold a_F at HC; generalize l[k] = x at *
   by_cases hx : nmB x = true
   rotate_left
   ·rw [if_neg hx] at HT HC
    have HR := a_2 (HF.out 4 HT.out d_); clear hx
    go_wp2_with (go_at_call 22; refine (HC.out).mono ?_; rintro e w1 ⟨rfl, hb1⟩)
    exact i_M
   rw [if_pos hx] at HT HC
   by_cases hin : x ∈ l.take k
   ·rw [if_pos hin] at HT
    refine p_r ?_; intro hinb; rw [hinb] at HH; have HR := a_2 (HF.out 6 HT.out d_); clear hin hinb hx
    go_wp2_with (first
     | (go_at_call 22; refine (HC.out).mono ?_; rintro e w1 ⟨rfl, hb1⟩)
     | (go_at_call 85; refine (HH.out _ hb1).mono ?_; rintro e w' ⟨rfl, rfl⟩))
    exact i_M
   ·rw [if_neg hin] at HT
    refine p_g ?_; intro hinb; rw [hinb] at HH; have HR := a_2 (HN.out HT.out); clear hin hinb hx
    go_wp2_with (first
     | (go_at_call 22; refine (HC.out).mono ?_; rintro e w1 ⟨rfl, hb1⟩)
     | (go_at_call 85; refine (HH.out _ hb1).mono ?_; rintro e w' ⟨rfl, rfl⟩))
    exact p_Z
  ·obtain rfl : k = l.length := by omega
   refine i_2 ?_; intro HR
   go_wp2
   exact i_N
set_option maxRecDepth 512
theorem a_8 (p : Bool) (x : Int) (w : World) : Calls prog 24 #[.bool p, .int .i64 x] w fun e w' => e = .returned (.int .i64 (if p = true then x else 0)) ∧ w = w' := by
 go_enter func24, ntmps24
 cases p
 all_goals
  go_wp2
  exact m_Y
theorem l_N (l : List a_3) : a_z l 1 = if l.length < 1 then 2 else f_9 l 12 := by
 unfold a_z f_9
 by_cases h : l.length < 1
 ·rw [if_pos (.inl h), if_pos h]
 ·rw [if_neg h]
  by_cases h2 : 12 < l.length
  ·rw [if_pos (.inr h2), if_pos h2]
  ·rw [if_neg o_, if_neg h2]
theorem c_r (A : Option Addr) (l : List a_3) (c : Nat) (w : World) (hW : a_v w 1 a_w) (h : b_b w A l) (hl : l.length ≤ 8796093022208) (hcp : l.length ≤ c) :
  Calls prog 162 #[.slice A l.length c] w fun e w' => e = .returned (.int .i64 (a_z l 1)) ∧ Below w.heap.size w w' := by
 have HM := a_2 (d_i A l c 12 w hW h hl o_ hcp)
 have HE := a_2 (l_N l)
 clear hW h
 generalize a_z l 1 = r at *
 generalize f_9 l 12 = v at *
 by_cases h1 : l.length = 0
 ·have HR := a_2 (HE.out.trans (if_pos o_))
  go_enter func162, ntmps162
  go_wp2_with (go_at_call 98; refine (HM.out).mono ?_; rintro e w1 ⟨rfl, hb1⟩)
  all_goals first | (exfalso; omega) | skip
  exact k_4
 ·have HR := a_2 (HE.out.trans (if_neg o_))
  go_enter func162, ntmps162
  go_wp2_with (go_at_call 98; refine (HM.out).mono ?_; rintro e w1 ⟨rfl, hb1⟩)
  all_goals first | (exfalso; omega) | skip
  exact q_h
theorem c_x (x : a_3) (g : Nat) (v : Int) (w : World) (eg : ∀ args W, (callFunc g args).run prog W = .ok (.enter g args) W)
  (hp : Calls prog g (#[str x] ++ #[]) w fun e w' => e = .returned (.int .i64 v) ∧ Below w.heap.size w w') :
  Calls prog 108 #[str x, .func (.func g) #[] #[]] w fun e w' => e = .returned (.int .i64 (if x = [] then 0 else v)) ∧ Below w.heap.size w w' := by
 have HP := a_2 (show Calls prog g #[str x] w (fun e w' => e = .returned (.int .i64 v) ∧ Below w.heap.size w w') from hp)
 clear hp
 by_cases hx : x = []
 ·subst hx
  go_enter func108, ntmps108
  go_wp2
  go_ret
  exact ⟨rfl, b_ _ _⟩
 ·have q2 : (x == []) = false := beq_eq_false_iff_ne.2 hx
  have HR := a_2 (show (if x = [] then 0 else v) = v from if_neg hx)
  generalize (if x = [] then 0 else v) = r at *
  clear hx
  go_enter func108, ntmps108
  go_wp2_with (go_at_fn g; refine (HP.out).mono ?_; rintro e w1 ⟨rfl, hb1⟩)
  exact q_h
theorem b_g {a b : Int} (h : a_c a b = 0) : a = 0 ∧ b = 0 := by
 unfold a_c at h
 split at h
 ·exact ⟨‹_›, h⟩
 ·exact absurd h ‹_›
theorem a_h {a b : Int} (h : a ≠ 0) : a_c a b = a := by unfold a_c; rw [if_neg h]
theorem a_m {b : Int} : a_c 0 b = b := by unfold a_c; rw [if_pos rfl]
theorem a_k {p : Prop} [Decidable p] {e : Int} (h : p) : a_b p e = e := by unfold a_b; rw [if_pos h]
theorem a_G {p : Prop} [Decidable p] {e : Int} (h : ¬ p) : a_b p e = 0 := by unfold a_b; rw [if_neg h]
theorem f_m {f : Nat → Int} : ∀ {n : Nat}, a_o f n = 0 → ∀ j, j < n → f j = 0
 | 0, _, j, hj => absurd hj (Nat.not_lt_zero _)
 | n + 1, h, j, hj => by
  unfold a_o at h
  split at h
  ·rename_i h0
   by_cases e : j = n
   ·subst e; exact h
   ·exact f_m h0 j o_
  ·rename_i h0
   exact absurd h h0
theorem l_i {c : UInt8} (h : d_6 c = true) : c.toNat ≠ 46 := by
 rcases g_x h with h | h | h
 ·have := e_6 h; omega
 ·have h1 := h.2; unfold j_O at h1; simp at h1; omega
 ·have h1 := h.2.2; simp at h1; omega
theorem h_u {s : a_3} (h : a_i 24 s = true) : b_e s = false := by
 unfold a_i at h
 cases s with
 | nil => rfl
 | cons c r =>
  simp only [Bool.and_eq_true, List.all_eq_true] at h
  unfold b_e
  rw [List.any_eq_false]
  intro x hx
  rcases List.mem_cons.1 hx with rfl | hx
  ·have := e_6 h.2.1; simp; omega
  ·have := l_i (h.2.2 x hx); simpa using this
theorem m_z {s : a_3} (h : qlB s = true) : b_e s = !a_i 24 s := by
 unfold qlB at h
 simp only [Bool.and_eq_true] at h
 have hq := h.1
 unfold b_4 at hq
 by_cases hd : c_W s < s.length
 ·have h1 : b_e s = true := by
   unfold b_e; rw [List.any_eq_true]; exact ⟨s[c_W s], List.getElem_mem hd, by simp [f_5 s hd]⟩
  have h2 : a_i 24 s = false := by
   cases h3 : a_i 24 s
   ·rfl
   ·rw [h_u h3] at h1; cases h1
  rw [h1, h2]; rfl
 ·rw [if_neg hd] at hq
  rw [h_u hq, hq]; rfl
theorem l_L : ∀ {l : List a_3}, (∀ s ∈ l, qlB s = true) → l.any b_e = l.any (fun s => !a_i 24 s)
 | [], _ => rfl
 | x :: r, h => by
  rw [List.any_cons, List.any_cons, m_z (h x s_), l_L (fun s hs => h s (by simp [hs]))]
theorem c_C {before names : List a_3} {good : a_3 → Bool} {own : Nat → Int} (h : a_A before names good own = 0) : ∀ s ∈ names, qlB s = true := by
 intro s hs
 unfold a_A at h
 split at h
 ·cases h
 ·obtain ⟨i, hi, rfl⟩ := List.mem_iff_getElem.1 hs
  have h1 := f_m h i hi
  unfold c_S at h1
  have h2 := (b_g h1).1
  unfold a_b at h2
  rw [List.getD_eq_getElem?_getD, List.getElem?_eq_getElem hi, Option.getD_some] at h2
  cases hq : qlB names[i]
  ·rw [hq] at h2; simp at h2
  ·rfl
theorem l_c {d : Dfs} (h : f_q d = 0) : ∀ s ∈ d.names, qlB s = true := by
 unfold f_q at h
 obtain ⟨h1, h⟩ := b_g h
 obtain ⟨h2, h⟩ := b_g h
 obtain ⟨h3, h⟩ := b_g h
 obtain ⟨h4, h⟩ := b_g h
 obtain ⟨h5, h6⟩ := b_g h
 intro s hs
 unfold Dfs.names at hs
 simp only [List.mem_append] at hs
 rcases hs with hs | hs | hs | hs | hs | hs
 ·exact c_C h1 s hs
 ·exact c_C h2 s hs
 ·exact c_C h3 s hs
 ·exact c_C h4 s hs
 ·exact c_C h5 s hs
 ·exact c_C h6 s hs
theorem c_6 (x : Int) (W : World) : Calls prog 92 #[.int .i64 x] W fun e w' => e = .returned (.bool (inB x)) ∧ W = w' := by
 have HE := a_2 (show inB x = (decide (-840 ≤ x) && decide (x ≤ 840)) from rfl)
 go_enter func92, ntmps92
 go_wp2
 all_goals
  exact r_d
theorem i_X (b : Nat) (y : Col) (x : a_3) (w : World) (hb : b < w.heap.size) (hc : w.cell? ⟨b, 0, none⟩ = some (str x)) :
  Calls prog 156 #[.agg #[str y.name, .int .i64 y.kind, .bool y.null], a_f b] w fun e w' => e = .returned (.bool (y.name == x)) ∧ Below w.heap.size w w' := by
 obtain ⟨yn, yk, yl⟩ := y
 show Calls prog 156 #[.agg #[str yn, .int .i64 yk, .bool yl], a_f b] w _
 have c1 : (w.alloc (.cells #[str yn, .int .i64 yk, .bool yl] 126)).cell? ⟨b, 0, none⟩ = some (str x) := by
  exact q_3
 have HR := a_2 (show (yn == x) = (yn == x) from rfl)
 go_enter func156, ntmps156
 go_wp2
 exact k_t
def o_O (cs : List Col) (i : Nat) : Value := match cs[i]? with
 | some y => .agg #[str y.name, .int .i64 y.kind, .bool y.null]
 | none => undef
theorem j_5 {cs : List Col} {i : Nat} (h : i < cs.length) : o_O cs i = .agg #[str cs[i].name, .int .i64 cs[i].kind, .bool cs[i].null] := by
 unfold o_O; rw [List.getElem?_eq_getElem h]
theorem l_O {w : World} {A : Option Addr} {cs : List Col} (h : b_1 w A cs) : n_t w A cs.length (o_O cs) := by
 rcases h with h | ⟨g, off, hA, hg, hc⟩
 ·exact .inl (by rw [h]; rfl)
 ·refine .inr ⟨g, off, hA, fun i hi => ?_⟩
  obtain ⟨h0, h1, h2⟩ := hc i hi
  exact ⟨_, _, _, j_5 hi, h0, h1, h2⟩
set_option maxRecDepth 100000
theorem c_v (A : Option Addr) (cs : List Col) (c : Nat) (x : a_3) (w : World) (h : b_1 w A cs) (hl : cs.length ≤ 8796093022208) :
  Calls prog 97 #[.slice A cs.length c, str x] w fun e w' => e = .returned (.int .i64 (c_k cs x)) ∧ Below w.heap.size w w' := by
 have HI := a_2 (fun (b : Nat) (W : World) (hb : Below w.heap.size w W) (hbb : b < W.heap.size) (hc : W.cell? ⟨b, 0, none⟩ = some (str x)) =>
  j_y A c cs.length 156 #[a_f b] (o_O cs) (i_G cs x) W hl (fun V hV => l_O ((h.below hb).below hV)) (fun args V => by kernel_rfl) (fun i hi V hV => by
   rw [j_5 hi, h_K hi]
   exact i_X b cs[i] x V (Nat.lt_of_lt_of_le hbb hV.size) ((hV.cell (p := ⟨b, 0, none⟩) hbb).trans hc)))
 clear h
 have HE := a_2 (show c_k cs x = b_h (i_G cs x) cs.length from rfl)
 generalize c_k cs x = r at *
 generalize b_h (i_G cs x) cs.length = v at *
 go_enter func97, ntmps97
 go_wp2_with (go_at_call 155; refine (HI.out _ _ zX s_ (by simp [go_sem])).mono ?_; rintro e w1 ⟨rfl, hb1⟩)
 go_ret
 exact ⟨a_d HE.out.symm, a_9 hb1 zX⟩
theorem g_0 (C : Option Addr) (cs : List Col) (cc : Nat) (N : Option Addr) (names : List a_3) (nc : Nat) (w : World) (hC : b_1 w C cs) (hcl : cs.length ≤ 1000) (hN : b_b w N names) (hnl : names.length ≤ 8796093022208) (hcp : names.length ≤ nc) :
  Calls prog 94 #[.slice C cs.length cc, .slice N names.length nc] w fun e w' => k_Y cs names w' e ∧ Below w.heap.size w w' := by
 have HN := a_2 hN
 have HI := a_2 (fun s W (hb : Below w.heap.size w W) => c_v C cs cc s W (hC.below hb) o_)
 clear hC hN
 obtain ⟨i0, hi, hz0, hz1, hz2⟩ := info_parts Tryz.info_int
 go_enter func94, ntmps94
 go_wp2
 go_loopw [6, 12] (fun s i wr => ∃ (k : Nat) (A' : Option Addr) (c' : Nat), s = .slice A' k c' ∧ i = .int .i64 k ∧ k ≤ names.length ∧ Hid (∀ j, j < k → n_e cs names j = 0) ∧
   wr.ownsRow w.heap.size 3 1 (.slice A' k c') k (d_T ((names.take k).map (c_k cs))) ∧ Below w.heap.size w wr) (fun _ i _ => names.length - (intOf i).toNat)
 case atStart => exact ⟨0, none, 0, rfl, rfl, o_, fun j hj => absurd hj (Nat.not_lt_zero _), b_f _ _ _ _, b_ _ _⟩
 case round =>
  obtain ⟨k, A', c', rfl, rfl, hk, HZ, hown, hbel⟩ := hrel
  have hsz := hbel.size
  by_cases hlt : k < names.length
  ·rcases HN.out.below hbel with e | ⟨g, off, rfl, hg, hc⟩
   ·exact absurd hlt e_
   have c0 := hc k hlt; have HX := a_2 (fun W (hb : Below w.heap.size w W) => show Calls prog 97 #[.slice C cs.length cc, str names[k]] W (fun e w' => e = .returned (.int .i64 (c_k cs names[k])) ∧ Below W.heap.size W w') from HI.out names[k] W hb)
   have HH := a_2 (fun W (hb : Below wr.heap.size wr W) => by
    have := b_k (some ⟨g, off, none⟩) (names.take k) nc names[k] W ((b_F hg hc k).below hb) (by rw [List.length_take]; omega); rw [List.length_take, Nat.min_eq_left (Nat.le_of_lt hlt)] at this
    exact this)
   refine r_K ?_; intro HT HF HK HS hkc; clear hc; generalize c_k cs names[k] = y at *; generalize names[k] = x at *
   by_cases hy : y < 0
   ·have HE := a_2 (HF.out 5 (by rw [HT.out, if_pos hy]) d_)
    refine _ag ?_; intro HE2; clear HT HF HK HS
    go_wp2_with (go_at_call 97; refine (HX.out _ hbel).mono ?_; rintro e w1 ⟨rfl, hb1⟩)
    refine bodyPost_ret (v := .tuple #[.slice none 0 0, .int .i64 5]) (by simp [results, results94, go_sem]) rfl ⟨⟨none, 0, by rw [HE.out, HE2.out]; rfl, by rw [HE2.out]; exact .inl rfl⟩, a_9 hb1 hbel⟩
   rw [if_neg hy] at HT
   by_cases hin : x ∈ names.take k
   ·rw [if_pos hin] at HT
    have hinb : decide (x ∈ names.take k) = true := by simpa using hin
    rw [hinb] at HH; have HE := a_2 (HF.out 6 HT.out d_); refine _ag ?_; intro HE2; clear hin hinb HF HT HK HS
    go_wp2_with (first
     | (go_at_call 97; refine (HX.out _ hbel).mono ?_; rintro e w1 ⟨rfl, hb1⟩)
     | (go_at_call 85; refine (HH.out _ hb1).mono ?_; rintro e w' ⟨rfl, rfl⟩))
    refine bodyPost_ret (v := .tuple #[.slice none 0 0, .int .i64 6]) (by simp [results, results94, go_sem]) rfl ⟨⟨none, 0, by rw [HE.out, HE2.out]; rfl, by rw [HE2.out]; exact .inl rfl⟩, a_9 hb1 hbel⟩
   ·rw [if_neg hin] at HT
    have hinb : decide (x ∈ names.take k) = false := by simpa using hin
    rw [hinb] at HH; have HE := a_2 (HK.out HT.out); clear hin hinb HF HT HK
    go_wp2_with (first
     | (go_at_call 97; refine (HX.out _ hbel).mono ?_; rintro e w1 ⟨rfl, hb1⟩; have own1 := a_g hown hb1; have hb2 := a_9 hb1 hbel; have hsz2 := hb2.size)
     | (go_at_call 85; refine (HH.out _ hb1).mono ?_; rintro e w' ⟨rfl, rfl⟩)
     | (at_builtin; refine wpList_append_own _ rfl _ _ 23 rfl w.heap.size 3 i0 _ 1 8 underlying23 hi hz0 hz1 hz2 rfl d_ _ _ _ rfl (own1.alloc _) ⟨w1.heap.size, 0, none⟩ 1 1 [.int .i64 y] rfl rfl (by exact b_3 (heap_alloc_new _ _)) c_ x_ o_ m_ ?_; intro v' w3 hown3 hgrow _; obtain ⟨A3, c3, rfl⟩ := a_j hown3; have hb3 : Below w.heap.size w w3 := (hb2.alloc hsz2 _).grown hgrow n_ (fun j hj => (own1.lt j hj).1); have HO := a_2 (show w3.ownsRow w.heap.size 3 1 (.slice A3 (k + 1) c3) (k + 1) (d_T ((names.take (k + 1)).map (c_k cs))) from by rw [HS.out]; simpa [d_T] using hown3); clear hown3 hgrow hown own1))
    exact ⟨⟨k + 1, A3, c3, rfl, t_, o_, HE, HO.out, hb3⟩, w_⟩
  ·obtain rfl : k = names.length := by omega
   refine r_M ?_; intro HE HE2 HO
   go_wp2
   refine bodyPost_ret (v := .tuple #[.slice A' names.length c', .int .i64 0]) (by simp [results, results94, go_sem]) rfl ⟨⟨A', c', by rw [HE.out, HE2.out]; simp, ?_⟩, hbel⟩; exact _aq
theorem f_r (nm : ByteArray) (o : Int) (S : Option Addr) (sh : List (Int × Int)) (c : Nat) (w : World) (h : h_B w S sh) (hl : sh.length ≤ 8796093022208) :
  Calls prog 40 #[.agg #[.string nm, .int .i64 o, .slice S sh.length c]] w fun e w' => e = .returned (.int .i64 (m_G o sh)) ∧ Below w.heap.size w w' := by
 have HA := a_2 h
 clear h
 have HW := a_2 (fun W => c_6 o W)
 refine s_8 ?_; intro H1 H2 H3
 generalize inB o = b0 at *
 by_cases h64 : 64 < sh.length
 ·have HV := a_2 (H1.out h64)
  go_enter func40, ntmps40
  go_wp2_with (go_at_call 92; refine (HW.out _).mono ?_; rintro e w' ⟨rfl, rfl⟩)
  exact p_R
 cases b0
 ·have HV := a_2 (H2.out h64 rfl)
  go_enter func40, ntmps40
  go_wp2_with (go_at_call 92; refine (HW.out _).mono ?_; rintro e w' ⟨rfl, rfl⟩)
  exact p_R
 have HE := a_2 (H3.out h64 s_)
 clear H1 H2 H3
 go_enter func40, ntmps40
 go_wp2_with (go_at_call 92; refine (HW.out _).mono ?_; rintro e w' ⟨rfl, rfl⟩)
 ·generalize hW : w.alloc _ = W1
  refine s_A ?_; intro hB hh
  clear hW
  go_loopw [16] (fun i wr => ∃ k : Nat, k ≤ sh.length ∧ i = .int .i64 k ∧ Hid (∀ j, j < k → shE sh j = 0) ∧ Below W1.heap.size W1 wr) (fun i _ => sh.length - (intOf i).toNat)
  case atStart => exact ⟨0, o_, rfl, a_2 fun j hj => absurd hj (Nat.not_lt_zero _), b_ _ _⟩
  case round =>
   obtain ⟨k, hk, rfl, HN, hbel⟩ := hrel; refine s_6 ?_; intro hh2 z0 hsz hbw hbz hlw HH; clear hh hh2
   by_cases hlt : k < sh.length
   ·rcases (HA.out.below hB).below hbel with e | ⟨g, off, rfl, hg, hc⟩
    ·exact absurd hlt e_
    refine s_5 ?_; intro c0 c1 HC HR HN'; generalize shE sh k = v0 at *; have HWi := a_2 (fun (x : Int) W => c_6 x W)
    by_cases hk0 : k = 0
    ·have d0 : decide ((0 : Int) < (k : Int)) = false := by simp; omega
     have d1 : decide (0 < k) = false := by simp; omega
     rw [if_neg (show ¬ (0 < k ∧ sh[k].1 ≤ (sh[k - 1]'o_).1) from fun h => by omega)] at HC; clear hc hk0; generalize sh[k] = x at *; obtain ⟨a, b⟩ := x; refine q_o ?_; intro HS; have HWb := a_2 (fun W => c_6 b W); generalize inB b = bb at *; simp only at c0 c1; refine o_u ?_; intro hlx
     by_cases a1 : a < 1
     ·have HV := a_2 (HR.out 1 (by rw [HC, if_pos (by rw [HS.out]; simp_all)]) d_)
      clear HC HR HN'
      go_wp2_with (go_at_call 92; refine (HWb.out _).mono ?_; rintro e w' ⟨rfl, rfl⟩)
      exact k_p
     by_cases a2 : 575999999 < a
     ·have HV := a_2 (HR.out 1 (by rw [HC, if_pos (by rw [HS.out]; simp_all)]) d_)
      clear HC HR HN'
      go_wp2_with (go_at_call 92; refine (HWb.out _).mono ?_; rintro e w' ⟨rfl, rfl⟩)
      exact k_p
     cases bb
     ·have HV := a_2 (HR.out 1 (by rw [HC, if_pos (by rw [HS.out]; simp_all)]) d_)
      clear HC HR HN'
      go_wp2_with (go_at_call 92; refine (HWb.out _).mono ?_; rintro e w' ⟨rfl, rfl⟩)
      exact k_p
     refine p_N ?_; intro HF; have HV := a_2 (HN'.out (by rw [HC, if_neg (by rw [HF.out]; simp)])); clear HC HR HN'
     go_wp2_with (go_at_call 92; refine (HWb.out _).mono ?_; rintro e w' ⟨rfl, rfl⟩)
     go_big_quiet (fail)
     go_wp2
     exact q_a
    ·have hc2 := (hc (k - 1) o_).1
     refine q_q ?_; intro d0 d1 hw ht hi0; have hi2 : (1 : Int) ≤ (k : Int) := by omega
     have hi1 : (k : Int) - 1 < (sh.length : Int) := by omega
     clear hc; generalize sh[k] = x at *; generalize (sh[k - 1]'o_).1 = y at *; obtain ⟨a, b⟩ := x; refine q_o ?_; intro HS; have HWb := a_2 (fun W => c_6 b W); generalize inB b = bb at *; simp only at c0 c1; refine o_u ?_; intro hlx
     by_cases a1 : a < 1
     ·have HV := a_2 (HR.out 1 (by rw [HC, if_pos (by rw [HS.out]; simp_all)]) d_)
      clear HC HR HN'
      go_wp2_with (go_at_call 92; refine (HWb.out _).mono ?_; rintro e w' ⟨rfl, rfl⟩)
      exact k_p
     by_cases a2 : 575999999 < a
     ·have HV := a_2 (HR.out 1 (by rw [HC, if_pos (by rw [HS.out]; simp_all)]) d_)
      clear HC HR HN'
      go_wp2_with (go_at_call 92; refine (HWb.out _).mono ?_; rintro e w' ⟨rfl, rfl⟩)
      exact k_p
     cases bb
     ·have HV := a_2 (HR.out 1 (by rw [HC, if_pos (by rw [HS.out]; simp_all)]) d_)
      clear HC HR HN'
      go_wp2_with (go_at_call 92; refine (HWb.out _).mono ?_; rintro e w' ⟨rfl, rfl⟩)
      exact k_p
     refine p_N ?_; intro HF
     by_cases hy : a ≤ y
     ·have HV := a_2 (HR.out 14 (by rw [HC, if_neg (by rw [HF.out]; simp), if_pos ⟨o_, hy⟩]) d_)
      clear HC HR HN'
      go_wp2_with (go_at_call 92; refine (HWb.out _).mono ?_; rintro e w' ⟨rfl, rfl⟩)
      go_big_quiet (fail)
      go_wp2
      exact r_Y
     ·have HV := a_2 (HN'.out (by rw [HC, if_neg (by rw [HF.out]; simp), if_neg (fun h => hy h.2)]))
      clear HC HR HN'
      go_wp2_with (go_at_call 92; refine (HWb.out _).mono ?_; rintro e w' ⟨rfl, rfl⟩)
      go_big_quiet (fail)
      go_wp2
      exact q_a
   ·have HV := a_2 (HE.out.trans (a_Y fun j hj => HN.out j o_))
    go_wp2
    go_ret
    exact ⟨by rw [HV.out]; rfl, hbw⟩
set_option maxRecDepth 512
theorem j_S {cs : List Col} {k : Nat} (h : k < cs.length) : 0 ≤ c_k cs cs[k].name ∧ c_k cs cs[k].name ≤ k := by
 have hk : i_G cs cs[k].name k = true := by rw [h_K h]; simp
 unfold c_k
 by_cases hn : ∃ j, j < k ∧ i_G cs cs[k].name j = true
 ·obtain ⟨j, hj, hp⟩ := hn
  have hmin : ∃ i, i ≤ j ∧ i_G cs cs[k].name i = true ∧ ∀ l, l < i → i_G cs cs[k].name l = false := by
   clear hk
   induction j using Nat.strongRecOn with
   | ind j ih =>
    by_cases he : ∃ l, l < j ∧ i_G cs cs[k].name l = true
    ·obtain ⟨l, hl, hp2⟩ := he
     obtain ⟨i, h1, h2, h3⟩ := ih l hl o_ hp2; exact ⟨i, o_, h2, h3⟩
    ·refine ⟨j, l_ _, hp, fun l hl => ?_⟩
     cases hv : i_G cs cs[k].name l
     ·rfl
     ·exact absurd ⟨l, hl, hv⟩ he
  obtain ⟨i, h1, h2, h3⟩ := hmin
  rw [d_q h3 h2 o_]
  omega
 ·rw [d_q (fun j hj => by
   cases hv : i_G cs cs[k].name j
   ·rfl
   ·exact absurd ⟨j, hj, hv⟩ hn) hk h]
  omega
set_option maxRecDepth 100000
theorem e_D (A : Option Addr) (cs : List Col) (c : Nat) (w : World) (h : b_1 w A cs) (hl : cs.length ≤ 8796093022208) :
  Calls prog 151 #[.slice A cs.length c] w fun e w' => e = .returned (.int .i64 (c_t cs)) ∧ Below w.heap.size w w' := by
 have HA := a_2 h
 have HI := a_2 (fun s W (hb : Below w.heap.size w W) => c_v A cs c s W (h.below hb) hl)
 clear h
 by_cases h1 : cs.length < 1
 ·have HE := a_2 (show c_t cs = 2 from by unfold c_t; rw [if_pos (.inl h1)])
  go_enter func151, ntmps151
  go_wp2
  all_goals first | (exfalso; omega) | skip
  exact j_X
 by_cases h2 : 12 < cs.length
 ·have HE := a_2 (show c_t cs = 2 from by unfold c_t; rw [if_pos (.inr h2)])
  go_enter func151, ntmps151
  go_wp2
  all_goals first | (exfalso; omega) | skip
  exact j_X
 have HE := a_2 (show c_t cs = a_o (i_z cs) cs.length from by unfold c_t; rw [if_neg o_])
 go_enter func151, ntmps151
 go_wp2
 all_goals first | (exfalso; omega) | skip
 go_loopw [15] (fun i wr => ∃ k : Nat, k ≤ cs.length ∧ i = .int .i64 k ∧ Hid (∀ j, j < k → i_z cs j = 0) ∧ Below w.heap.size w wr) (fun i _ => cs.length - (intOf i).toNat)
 case atStart => exact ⟨0, o_, rfl, fun j hj => absurd hj (Nat.not_lt_zero _), b_ _ _⟩
 case round =>
  obtain ⟨k, hk, rfl, HZ, hbel⟩ := hrel
  by_cases hlt : k < cs.length
  ·rcases HA.out.below hbel with e | ⟨g, off, rfl, hg, hc⟩
   ·exact absurd hlt e_
   obtain ⟨c0, c1, c2⟩ := hc k hlt; have HT := a_2 (k_W hlt); have hix := j_S hlt; have HF := a_2 (fun x (e : i_z cs k = x) (hx : x ≠ 0) => (HE.out.trans (a_q HZ.out (by rw [e]; exact hx) hlt)).trans e); have HN := a_2 (fun (e : i_z cs k = 0) => a_T HZ.out e); have HIx := a_2 (fun W (hb : Below wr.heap.size wr W) => HI.out cs[k].name W (a_9 hb hbel)); have HNm := a_2 (fun W => show Calls prog 81 #[str cs[k].name] W (fun e w' => e = .returned (.bool (a_i 24 cs[k].name)) ∧ Below W.heap.size W w') from a_Z ⟨cs[k].name.toArray⟩ W); clear hc; generalize hyi : c_k cs cs[k].name = ix at *; clear hyi; generalize cs[k] = y at *; obtain ⟨yn, yk, yl⟩ := y; simp only at c0 c1 c2 HT HIx HNm; have hbox : Below (wr.heap.size + 1) (wr.alloc (.cells #[str yn, .int .i64 yk, .bool yl] 126)) (wr.alloc (.cells #[str yn, .int .i64 yk, .bool yl] 126)) := b_ _ _
   have hres : i_z cs k = 4 ∨ i_z cs k = 7 ∨ i_z cs k = 6 ∨ i_z cs k = 0 := by
    rw [HT.out]
    split
    ·exact .inl rfl
    ·split
     ·exact .inr (.inl rfl)
     ·split
      ·exact .inr (.inr (.inl rfl))
      ·exact .inr (.inr (.inr rfl))
   generalize i_z cs k = v at *; generalize a_i 24 yn = q at *
   cases q
   ·have HR := a_2 (HF.out 4 (by rw [HT.out]; rfl) d_)
    clear HT HF HN hres
    go_wp2_with (go_at_call 81; refine (HNm.out _).mono ?_; rintro e w1 ⟨rfl, hb1⟩)
    exact p_q
   by_cases hk1 : yk < 1 ∨ 4 < yk
   ·have HR := a_2 (HF.out 7 (by rw [HT.out, if_neg s_, if_pos hk1]) d_)
    clear HT HF HN hres
    rcases hk1 with hk1 | hk1
    all_goals
     go_wp2_with (go_at_call 81; refine (HNm.out _).mono ?_; rintro e w1 ⟨rfl, hb1⟩; obtain ⟨d0, d1, d2, dl⟩ := bx3 (a_1 hbox s_ hb1))
     all_goals first | (exfalso; omega) | skip
     exact p_q
   have hk2 : ¬ yk < 1 := by omega
   have hk3 : ¬ 4 < yk := by omega
   by_cases hx : ix = k
   ·have HR := a_2 (HN.out (by rw [HT.out, if_neg s_, if_neg hk1, if_neg (by simp [hx])]))
    clear HT HF HN hres hk1; subst hx
    go_wp2_with (first
     | (go_at_call 81; refine (HNm.out _).mono ?_; rintro e w1 ⟨rfl, hb1⟩; obtain ⟨d0, d1, d2, dl⟩ := bx3 (a_1 hbox s_ hb1); have hb1x : Below wr.heap.size wr w1 := a_9 hb1 zX)
     | (go_at_call 97; refine (HIx.out _ hb1x).mono ?_; rintro e w2 ⟨rfl, hb2⟩))
    all_goals first | (exfalso; omega) | skip
    exact ⟨⟨k + 1, o_, t_, HR, a_9 (a_9 hb2 hb1x) hbel⟩, w_⟩
   ·have HR := a_2 (HF.out 6 (by rw [HT.out, if_neg s_, if_neg hk1, if_pos hx]) d_)
    have hlt2 : ix < (k : Int) := by omega
    clear HT HF HN hres hk1
    go_wp2_with (first
     | (go_at_call 81; refine (HNm.out _).mono ?_; rintro e w1 ⟨rfl, hb1⟩; obtain ⟨d0, d1, d2, dl⟩ := bx3 (a_1 hbox s_ hb1); have hb1x : Below wr.heap.size wr w1 := a_9 hb1 zX)
     | (go_at_call 97; refine (HIx.out _ hb1x).mono ?_; rintro e w2 ⟨rfl, hb2⟩))
    all_goals first | (exfalso; omega) | skip
    go_ret
    exact ⟨a_d HR.out.symm, a_9 (a_9 hb2 hb1x) hbel⟩
  ·obtain rfl : k = cs.length := by omega
   refine i_2 ?_; intro HR
   go_wp2
   exact i_N
end Go.Proofs.YtnpjibaolicbmaaGreatDoor
