/- Parts of the proof. -/
import Derived.Test.YtmbeeefkpgfgmaaGreatDoorPp09
import Derived.BigGuardPart
set_option linter.unusedVariables false
set_option linter.unusedSimpArgs false
set_option maxHeartbeats 4000000
namespace Go.Proofs.YtmbeeefkpgfgmaaGreatDoor
open Go.Proofs.Tryz
open Go.RowKit Go.WideMaps Go.Maps
abbrev ndV (op k m : Int) (x nm : ByteArray) (a : Int) : Value := .agg #[.int .i64 op, .int .i64 k, .int .i64 m, .string x, .string nm, .int .i64 a]
abbrev i_b (op k m : Int) (x nm : ByteArray) (a : Int) : Obj := .cells #[.int .i64 op, .int .i64 k, .int .i64 m, .string x, .string nm, .int .i64 a] 116
set_option maxRecDepth 100000
theorem b_N (op k m a : Int) (x nm : ByteArray) (w : World) : Calls prog 92 #[ndV op k m x nm a] w fun e w' => e = .returned (.int .i64 (c_B op a)) ∧ Below w.heap.size w w' := by
 go_enter func92, ntmps92
 go_wp2
 all_goals
  go_ret
  refine ⟨a_k ?_, zX⟩
  simp_all [c_B] <;> omega
theorem d_G (op k m a : Int) (x nm : ByteArray) (w : World) : Calls prog 101 #[ndV op k m x nm a] w fun e w' => e = .returned (.int .i64 (c_B op a)) ∧ Below w.heap.size w w' := by
 go_enter func101, ntmps101
 go_wp2
 all_goals
  go_ret
  refine ⟨a_k ?_, zX⟩
  simp_all [c_B] <;> omega
set_option maxRecDepth 512
theorem a_4 {B : Nat} {W0 W W1 : World} (h : Below B W0 W) (hB : B ≤ W0.heap.size) (h1 : Below W.heap.size W W1) : Below B W0 W1 := h.trans (h1.mono (Nat.le_trans hB h.size))
theorem b_k {w w1 : World} {a b c d e f : Value} {t : TypeId} (h : Below (w.heap.size + 1) (w.alloc (.cells #[a, b, c, d, e, f] t)) w1) :
  w1.cell? ⟨w.heap.size, 0, none⟩ = some a ∧ w1.cell? ⟨w.heap.size, 1, none⟩ = some b ∧ w1.cell? ⟨w.heap.size, 2, none⟩ = some c ∧ w1.cell? ⟨w.heap.size, 3, none⟩ = some d ∧ w1.cell? ⟨w.heap.size, 4, none⟩ = some e ∧ w1.cell? ⟨w.heap.size, 5, none⟩ = some f ∧ w.heap.size < w1.heap.size := by
 have hheap := d_g h (Nat.lt_succ_self _)
 exact ⟨a_2 hheap 0, a_2 hheap 1, a_2 hheap 2, a_2 hheap 3, a_2 hheap 4, a_2 hheap 5, a_6 hheap⟩
theorem a_5 {w w1 : World} {o : Obj} (h : Below (w.heap.size + 1) (w.alloc o) w1) : Below w.heap.size w w1 := ((b_ _ _).alloc (l_ _) _).trans (h.mono (Nat.le_succ _))
theorem d_N (s : ByteArray) (w : World) : Calls prog 104 #[.string s] w fun e w' => e = .returned (.bool (a_p 24 (bs s) && !e_g (bs s))) ∧ Below w.heap.size w w' := by
 have H1 := a_0 (fun W => b_W s W)
 have H2 := a_0 (fun W => c_a s W)
 generalize a_p 24 (bs s) = p at *
 generalize e_g (bs s) = q at *
 go_enter func104, ntmps104
 cases p <;> cases q
 all_goals
  go_wp2_with (first
   | (go_at_call 162; refine (H1.out _).mono ?_; rintro e w' ⟨rfl, rfl⟩)
   | (go_at_call 99; refine (H2.out _).mono ?_; rintro e w1 ⟨rfl, hb1⟩))
  go_ret
  exact ⟨rfl, by first | assumption | exact zX⟩
theorem c_h (s : ByteArray) (w : World) (hs : s.size ≤ maxLen) : Calls prog 60 #[.string s] w fun e w' => e = .returned (.bool (a_K 24 (bs s) && !e_g (bs s))) ∧ Below w.heap.size w w' := by
 have H1 := a_0 (fun W => d_b s W hs)
 have H2 := a_0 (fun W => c_a s W)
 generalize a_K 24 (bs s) = p at *
 generalize e_g (bs s) = q at *
 go_enter func60, ntmps60
 cases p <;> cases q
 all_goals
  go_wp2_with (first
   | (go_at_call 98; refine (H1.out _).mono ?_; rintro e w' ⟨rfl, rfl⟩)
   | (go_at_call 99; refine (H2.out _).mono ?_; rintro e w1 ⟨rfl, hb1⟩))
  go_ret
  exact ⟨rfl, by first | assumption | exact zX⟩
theorem f_x (s : ByteArray) (w : World) : Calls prog 164 #[.string s] w fun e w' => e = .returned (.bool (biB (bs s))) ∧ Below w.heap.size w w' := by
 go_enter func164, ntmps164
 go_wp2_with fail
 refine (e_x _ g_a 5 s _ (.inr ⟨w.heap.size, 0, rfl, s_, fun i hi => ?_⟩) d_).mono ?_
 ·have hi' : i < 5 := hi
  rw [a_2 (heap_alloc_new w _)]
  match i, hi' with
  | 0, _ => rfl
  | 1, _ => rfl
  | 2, _ => rfl
  | 3, _ => rfl
  | 4, _ => rfl
 rintro e w' ⟨rfl, rfl⟩
 have HE := a_0 (show k_N g_a (bs s) = biB (bs s) from rfl)
 go_wp2
 go_ret
 exact ⟨a_g (by rw [← HE.out]), zX⟩
theorem k_b (k m a : Int) (x nm : a_3) : a_L 0 k m x nm a = (g_y k m x && nm.isEmpty && (a == 0)) := rfl
theorem j_L (k m a : Int) (x nm : a_3) : a_L 1 k m x nm a = (h_2 k m x && ((a == 0) && a_p 24 nm && !e_g nm)) := rfl
theorem i_A (k m a : Int) (x nm : a_3) : a_L 20 k m x nm a = (h_2 k m x && ((a == 0) && a_K 24 nm && !e_g nm)) := rfl
theorem i_R (k m a : Int) (x nm : a_3) : a_L 21 k m x nm a = (h_2 k m x && (a_K 24 nm && !biB nm && !e_g nm && decide (0 ≤ a) && decide (a ≤ 8))) := rfl
theorem f_O {op : Int} (h0 : op ≠ 0) (h1 : op ≠ 1) (h20 : op ≠ 20) (h21 : op ≠ 21) (k m a : Int) (x nm : a_3) : a_L op k m x nm a = (h_2 k m x && ((a == 0) && nm.isEmpty && decide (0 ≤ c_B op a))) := by
 unfold a_L
 rw [if_neg h0, if_neg h1, if_neg h20, if_neg h21]
theorem e_0 (a : Int) : a = 0 ∨ (a == 0) = false := by
 by_cases h : a = 0
 ·exact .inl h
 ·exact .inr (by simpa using h)
theorem i_H (k m : Int) (x : ByteArray) : (k = 0 ∧ m = 0 ∧ x = ⟨#[]⟩ ∧ h_2 k m (bs x) = true) ∨ ((k == 0) = false ∧ h_2 k m (bs x) = false) ∨ (k = 0 ∧ (m == 0) = false ∧ h_2 k m (bs x) = false) ∨
  (k = 0 ∧ m = 0 ∧ (x.toList == []) = false ∧ x.toList.isEmpty = false ∧ h_2 k m (bs x) = false) := by
 have hb := c_j x
 by_cases hk : k = 0
 ·by_cases hm : m = 0
  ·by_cases hx : x = ⟨#[]⟩
   ·left; subst hk hm hx; exact ⟨rfl, rfl, rfl, rfl⟩
   ·right; right; right
    have h1 : bs x ≠ [] := fun e => hx (by rw [← k_0 x, e]); subst hk hm; refine ⟨rfl, rfl, by rw [← hb]; simpa using h1, by rw [← hb]; cases h : bs x <;> simp_all, ?_⟩; unfold h_2; cases h : bs x <;> simp_all
  ·right; right; left
   subst hk; exact ⟨rfl, by simpa using hm, by unfold h_2; simp [hm]⟩
 ·right; left
  exact ⟨by simpa using hk, by unfold h_2; simp [hk]⟩
set_option maxRecDepth 100000
theorem j_u (k m a : Int) (x nm : ByteArray) (w : World) : Calls prog 100 #[ndV 0 k m x nm a] w fun e w' => e = .returned (.bool (a_L 0 k m (bs x) (bs nm) a)) ∧ Below w.heap.size w w' := by
 have H1 := a_0 (fun W => i_i k m x W)
 have hcur := b_ (w.heap.size + 1) (w.alloc (i_b 0 k m x nm a))
 have HE := a_0 (k_b k m a (bs x) (bs nm))
 refine _ae ?_; intro HZ HY
 generalize g_y k m (bs x) = v at *
 generalize a_L 0 k m (bs x) (bs nm) a = r at *
 rcases HZ with ⟨rfl, rfl, rfl, z⟩ | ⟨z1, z⟩ | ⟨rfl, z1, z⟩ | ⟨rfl, rfl, z1, z2, z⟩ <;> (try rw [z] at HE) <;> clear z
 all_goals rcases e_0 a with rfl | za
 all_goals
  go_enter func100, ntmps100
  go_wp2_with (first
   | (go_at_call 163; refine (H1.out _).mono ?_; rintro e w1 ⟨rfl, hb1⟩; have hcur := a_4 hcur s_ hb1; obtain ⟨k0, k1, k2, k3, k4, k5, k6⟩ := b_k hcur; clear hb1))
  all_goals
   go_ret
   refine ⟨a_g ?_, by first | exact a_5 hcur | exact zX⟩; refine p_y ?_; intro he hy; clear HE HY H1
   simp_all
theorem j_9 (k m a : Int) (x nm : ByteArray) (w : World) : Calls prog 100 #[ndV 1 k m x nm a] w fun e w' => e = .returned (.bool (a_L 1 k m (bs x) (bs nm) a)) ∧ Below w.heap.size w w' := by
 have H1 := a_0 (fun W => d_N nm W)
 have hcur := b_ (w.heap.size + 1) (w.alloc (i_b 1 k m x nm a))
 have HE := a_0 (j_L k m a (bs x) (bs nm))
 refine _ae ?_; intro HZ HY
 generalize a_p 24 (bs nm) = p at *
 generalize e_g (bs nm) = q at *
 generalize a_L 1 k m (bs x) (bs nm) a = r at *
 rcases HZ with ⟨rfl, rfl, rfl, z⟩ | ⟨z1, z⟩ | ⟨rfl, z1, z⟩ | ⟨rfl, rfl, z1, z2, z⟩ <;> (try rw [z] at HE) <;> clear z
 all_goals rcases e_0 a with rfl | za
 all_goals
  go_enter func100, ntmps100
  go_wp2_with (first
   | (go_at_call 104; refine (H1.out _).mono ?_; rintro e w1 ⟨rfl, hb1⟩; have hcur := a_4 hcur s_ hb1; obtain ⟨k0, k1, k2, k3, k4, k5, k6⟩ := b_k hcur; clear hb1))
  all_goals
   go_ret
   refine ⟨a_g ?_, by first | exact a_5 hcur | exact zX⟩; refine p_y ?_; intro he hy; clear HE HY H1
   simp_all
theorem i_n (k m a : Int) (x nm : ByteArray) (w : World) (hn : nm.size ≤ maxLen) : Calls prog 100 #[ndV 20 k m x nm a] w fun e w' => e = .returned (.bool (a_L 20 k m (bs x) (bs nm) a)) ∧ Below w.heap.size w w' := by
 have H1 := a_0 (fun W => c_h nm W hn)
 have hcur := b_ (w.heap.size + 1) (w.alloc (i_b 20 k m x nm a))
 clear hn
 have HE := a_0 (i_A k m a (bs x) (bs nm))
 refine _ae ?_; intro HZ HY
 generalize a_K 24 (bs nm) = p at *
 generalize e_g (bs nm) = q at *
 generalize a_L 20 k m (bs x) (bs nm) a = r at *
 rcases HZ with ⟨rfl, rfl, rfl, z⟩ | ⟨z1, z⟩ | ⟨rfl, z1, z⟩ | ⟨rfl, rfl, z1, z2, z⟩ <;> (try rw [z] at HE) <;> clear z
 all_goals rcases e_0 a with rfl | za
 all_goals
  go_enter func100, ntmps100
  go_wp2_with (first
   | (go_at_call 60; refine (H1.out _).mono ?_; rintro e w1 ⟨rfl, hb1⟩; have hcur := a_4 hcur s_ hb1; obtain ⟨k0, k1, k2, k3, k4, k5, k6⟩ := b_k hcur; clear hb1))
  all_goals
   go_ret
   refine ⟨a_g ?_, by first | exact a_5 hcur | exact zX⟩; refine p_y ?_; intro he hy; clear HE HY H1
   simp_all
theorem i_l (k m a : Int) (x nm : ByteArray) (w : World) (hn : nm.size ≤ maxLen) : Calls prog 100 #[ndV 21 k m x nm a] w fun e w' => e = .returned (.bool (a_L 21 k m (bs x) (bs nm) a)) ∧ Below w.heap.size w w' := by
 have H1 := a_0 (fun W => c_h nm W hn)
 have H2 := a_0 (fun W => f_x nm W)
 have hcur := b_ (w.heap.size + 1) (w.alloc (i_b 21 k m x nm a))
 clear hn
 have HE := a_0 (i_R k m a (bs x) (bs nm))
 refine _ae ?_; intro HZ HY
 generalize a_K 24 (bs nm) = p at *
 generalize e_g (bs nm) = q at *
 generalize biB (bs nm) = b at *
 generalize a_L 21 k m (bs x) (bs nm) a = r at *
 rcases HZ with ⟨rfl, rfl, rfl, z⟩ | ⟨z1, z⟩ | ⟨rfl, z1, z⟩ | ⟨rfl, rfl, z1, z2, z⟩ <;> (try rw [z] at HE) <;> clear z
 all_goals rcases e_0 a with rfl | za
 all_goals
  go_enter func100, ntmps100
  go_wp2_with (first
   | (go_at_call 60; refine (H1.out _).mono ?_; rintro e w1 ⟨rfl, hb1⟩; have hcur := a_4 hcur s_ hb1; obtain ⟨k0, k1, k2, k3, k4, k5, k6⟩ := b_k hcur; clear hb1)
   | (go_at_call 164; refine (H2.out _).mono ?_; rintro e w1 ⟨rfl, hb1⟩; have hcur := a_4 hcur s_ hb1; obtain ⟨k0, k1, k2, k3, k4, k5, k6⟩ := b_k hcur; clear hb1))
  all_goals
   go_ret
   refine ⟨a_g ?_, by first | exact a_5 hcur | exact zX⟩; refine p_y ?_; intro he hy; clear HE HY H1 H2; clear hcur
   (try clear k0 k1 k2 k3 k4 k5 k6)
   (try clear k0 k1 k2 k3 k4 k5 k6)
   (try clear hcur)
   (try clear hcur)
   clear hy; rw [he]; clear he
   grind
theorem g_p (op k m a : Int) (x nm : ByteArray) (w : World) (h0 : op ≠ 0) (h1 : op ≠ 1) (h20 : op ≠ 20) (h21 : op ≠ 21) : Calls prog 100 #[ndV op k m x nm a] w fun e w' => e = .returned (.bool (a_L op k m (bs x) (bs nm) a)) ∧ Below w.heap.size w w' := by
 have H1 := a_0 (fun W => d_G op k m a x nm W)
 refine v_o ?_; intro hcur b0 b1 b20 b21
 have HE := a_0 (f_O h0 h1 h20 h21 k m a (bs x) (bs nm))
 refine _ae ?_; intro HZ HY
 generalize c_B op a = y at *
 clear h0 h1 h20 h21
 generalize a_L op k m (bs x) (bs nm) a = r at *
 rcases HZ with ⟨rfl, rfl, rfl, z⟩ | ⟨z1, z⟩ | ⟨rfl, z1, z⟩ | ⟨rfl, rfl, z1, z2, z⟩ <;> (try rw [z] at HE) <;> clear z
 all_goals rcases e_0 a with rfl | za
 all_goals
  go_enter func100, ntmps100
  go_wp2_with (first
   | (go_at_call 101; refine (H1.out _).mono ?_; rintro e w1 ⟨rfl, hb1⟩; have hcur := a_4 hcur s_ hb1; obtain ⟨k0, k1, k2, k3, k4, k5, k6⟩ := b_k hcur; clear hb1))
  all_goals
   go_ret
   refine ⟨a_g ?_, by first | exact a_5 hcur | exact zX⟩; refine p_y ?_; intro he hy; clear HE HY H1
   simp_all
set_option maxRecDepth 512
theorem h_h (op k m a : Int) (x nm : ByteArray) (w : World) (hn : nm.size ≤ maxLen) : Calls prog 100 #[ndV op k m x nm a] w fun e w' => e = .returned (.bool (a_L op k m (bs x) (bs nm) a)) ∧ Below w.heap.size w w' := by
 by_cases h0 : op = 0
 ·subst h0; exact j_u k m a x nm w
 by_cases h1 : op = 1
 ·subst h1; exact j_9 k m a x nm w
 by_cases h20 : op = 20
 ·subst h20; exact i_n k m a x nm w hn
 by_cases h21 : op = 21
 ·subst h21; exact i_l k m a x nm w hn
 exact g_p op k m a x nm w h0 h1 h20 h21
set_option maxRecDepth 100000
theorem p_c (k m a : Int) (x nm : ByteArray) (w : World) (hW : a_X w 2 a_J) : Calls prog 91 #[ndV 0 k m x nm a] w fun e w' => e = .returned (.bool (a_L 0 k m (bs x) (bs nm) a)) ∧ Below w.heap.size w w' := by
 have H1 := a_0 (fun W => h_X k m x W)
 have hcur := b_ (w.heap.size + 1) (w.alloc (i_b 0 k m x nm a))
 clear hW
 have HE := a_0 (k_b k m a (bs x) (bs nm))
 refine _ae ?_; intro HZ HY
 generalize g_y k m (bs x) = v at *
 generalize a_L 0 k m (bs x) (bs nm) a = r at *
 rcases HZ with ⟨rfl, rfl, rfl, z⟩ | ⟨z1, z⟩ | ⟨rfl, z1, z⟩ | ⟨rfl, rfl, z1, z2, z⟩ <;> (try rw [z] at HE) <;> clear z
 all_goals rcases e_0 a with rfl | za
 all_goals
  go_enter func91, ntmps91
  go_wp2_with (first
   | (go_at_call 159; refine (H1.out _).mono ?_; rintro e w1 ⟨rfl, hb1⟩; have hcur := a_4 hcur s_ hb1; obtain ⟨k0, k1, k2, k3, k4, k5, k6⟩ := b_k hcur; clear hb1))
  all_goals
   go_ret
   refine ⟨a_g ?_, by first | exact a_5 hcur | exact zX⟩; refine p_y ?_; intro he hy; clear HE HY H1
   (try rw [hy] at he)
   clear hy; rw [he]; clear he
   grind
theorem p_a (k m a : Int) (x nm : ByteArray) (w : World) (hW : a_X w 2 a_J) : Calls prog 91 #[ndV 1 k m x nm a] w fun e w' => e = .returned (.bool (a_L 1 k m (bs x) (bs nm) a)) ∧ Below w.heap.size w w' := by
 have H1 := a_0 (fun W => b_y nm W)
 refine u_I ?_; intro HR
 have hcur := b_ (w.heap.size + 1) (w.alloc (i_b 1 k m x nm a))
 clear hW
 have HE := a_0 (j_L k m a (bs x) (bs nm))
 refine _ae ?_; intro HZ HY
 generalize a_p 24 (bs nm) = p at *
 generalize e_g (bs nm) = q at *
 generalize a_L 1 k m (bs x) (bs nm) a = r at *
 rcases HZ with ⟨rfl, rfl, rfl, z⟩ | ⟨z1, z⟩ | ⟨rfl, z1, z⟩ | ⟨rfl, rfl, z1, z2, z⟩ <;> (try rw [z] at HE) <;> clear z
 all_goals rcases e_0 a with rfl | za
 all_goals
  go_enter func91, ntmps91
  go_wp2_with (first
   | (go_at_call 97; refine (H1.out _).mono ?_; rintro e w1 ⟨rfl, hb1⟩; have hcur := a_4 hcur s_ hb1; obtain ⟨k0, k1, k2, k3, k4, k5, k6⟩ := b_k hcur; clear hb1)
   | (go_at_call 89; refine (HR.out _ (a_5 hcur)).mono ?_; rintro e w1 ⟨rfl, rfl⟩))
  all_goals
   go_ret
   refine ⟨a_g ?_, by first | exact a_5 hcur | exact zX⟩; refine p_y ?_; intro he hy; clear HE HY H1 HR
   (try rw [hy] at he)
   clear hy; rw [he]; clear he
   grind
theorem o_A (k m a : Int) (x nm : ByteArray) (w : World) (hW : a_X w 2 a_J) (hn : nm.size ≤ maxLen) : Calls prog 91 #[ndV 20 k m x nm a] w fun e w' => e = .returned (.bool (a_L 20 k m (bs x) (bs nm) a)) ∧ Below w.heap.size w w' := by
 have H1 := a_0 (fun W => b_m nm W hn)
 refine u_I ?_; intro HR
 have hcur := b_ (w.heap.size + 1) (w.alloc (i_b 20 k m x nm a))
 clear hn
 clear hW
 have HE := a_0 (i_A k m a (bs x) (bs nm))
 refine _ae ?_; intro HZ HY
 generalize a_K 24 (bs nm) = p at *
 generalize e_g (bs nm) = q at *
 generalize a_L 20 k m (bs x) (bs nm) a = r at *
 rcases HZ with ⟨rfl, rfl, rfl, z⟩ | ⟨z1, z⟩ | ⟨rfl, z1, z⟩ | ⟨rfl, rfl, z1, z2, z⟩ <;> (try rw [z] at HE) <;> clear z
 all_goals rcases e_0 a with rfl | za
 all_goals
  go_enter func91, ntmps91
  go_wp2_with (first
   | (go_at_call 88; refine (H1.out _).mono ?_; rintro e w1 ⟨rfl, hb1⟩; have hcur := a_4 hcur s_ hb1; obtain ⟨k0, k1, k2, k3, k4, k5, k6⟩ := b_k hcur; clear hb1)
   | (go_at_call 89; refine (HR.out _ (a_5 hcur)).mono ?_; rintro e w1 ⟨rfl, rfl⟩))
  all_goals
   go_ret
   refine ⟨a_g ?_, by first | exact a_5 hcur | exact zX⟩; refine p_y ?_; intro he hy; clear HE HY H1 HR
   (try rw [hy] at he)
   clear hy; rw [he]; clear he
   grind
theorem j_Y (op k m a : Int) (x nm : ByteArray) (w : World) (hW : a_X w 2 a_J) (h0 : op ≠ 0) (h1 : op ≠ 1) (h20 : op ≠ 20) (h21 : op ≠ 21) : Calls prog 91 #[ndV op k m x nm a] w fun e w' => e = .returned (.bool (a_L op k m (bs x) (bs nm) a)) ∧ Below w.heap.size w w' := by
 have H1 := a_0 (fun W => b_N op k m a x nm W)
 refine v_o ?_; intro hcur b0 b1 b20 b21
 have c0 : (op != 0) = true := by simpa using h0
 have c21 : (op != 21) = true := by simpa using h21
 clear hW
 have HE := a_0 (f_O h0 h1 h20 h21 k m a (bs x) (bs nm))
 refine _ae ?_; intro HZ HY
 generalize c_B op a = y at *
 clear h0 h1 h20 h21
 generalize a_L op k m (bs x) (bs nm) a = r at *
 rcases HZ with ⟨rfl, rfl, rfl, z⟩ | ⟨z1, z⟩ | ⟨rfl, z1, z⟩ | ⟨rfl, rfl, z1, z2, z⟩ <;> (try rw [z] at HE) <;> clear z
 all_goals rcases e_0 a with rfl | za
 all_goals
  go_enter func91, ntmps91
  go_wp2_with (first
   | (go_at_call 92; refine (H1.out _).mono ?_; rintro e w1 ⟨rfl, hb1⟩; have hcur := a_4 hcur s_ hb1; obtain ⟨k0, k1, k2, k3, k4, k5, k6⟩ := b_k hcur; clear hb1))
  all_goals
   go_ret
   refine ⟨a_g ?_, by first | exact a_5 hcur | exact zX⟩; refine p_y ?_; intro he hy; clear HE HY H1
   (try rw [hy] at he)
   clear hy; rw [he]; clear he
   grind
set_option maxRecDepth 512
theorem r_s (w : World) : (zeroValue 3).run prog w = .ok (.int .i64 0) w := by kernel_rfl
theorem n_X {w : World} {B : Nat} (h : w.ownsMap prog 9 (plainElem prog 3) B 5 biD) (s : ByteArray) (hs : s.size ≤ maxLen) :
  ∃ c : Int, (Instr.lookup 152 (.map (some B)) (.string s) true).run prog w = .ok (.tuple #[.int .i64 c, .bool (biB (bs s))]) w ∧ biD.atKey (.string (bs s)) (.lit (.int .i64 0)) = .lit (.int .i64 c) := by
 obtain ⟨v, ps, hrun, hv⟩ := h.look_ok a_Q underlying152 (r_s w) (plainElem_int underlying3 d_) (keyOf_string_mk underlying9 hs)
 obtain ⟨c, rfl, hc, hwc⟩ := plainElem_int_inv underlying3 hv
 have e : Maps.has biD (.string s.data.toList) = biB (bs s) := r_J (bs s)
 rw [e] at hrun
 exact ⟨c, hrun, congrArg Prod.fst hc⟩
set_option maxRecDepth 100000
theorem n_c (k m a : Int) (x nm : ByteArray) (w : World) (hW : a_X w 2 a_J) (hn : nm.size ≤ maxLen) : Calls prog 91 #[ndV 21 k m x nm a] w fun e w' => e = .returned (.bool (a_L 21 k m (bs x) (bs nm) a)) ∧ Below w.heap.size w w' := by
 have H1 := a_0 (fun W => b_m nm W hn)
 refine u_I ?_; intro HR
 have hcur := b_ (w.heap.size + 1) (w.alloc (i_b 21 k m x nm a))
 have HN := a_0 hn
 clear hW hn
 have HE := a_0 (i_R k m a (bs x) (bs nm))
 have HZ := i_H k m x
 have HB := a_0 (show biB (bs nm) = biB (bs nm) from rfl)
 generalize a_K 24 (bs nm) = p at *
 generalize e_g (bs nm) = q at *
 generalize a_L 21 k m (bs x) (bs nm) a = r at *
 rcases HZ with ⟨rfl, rfl, rfl, z⟩ | ⟨z1, z⟩ | ⟨rfl, z1, z⟩ | ⟨rfl, rfl, z1, z2, z⟩ <;> (try rw [z] at HE) <;> clear z
 case inl =>
  go_enter func91, ntmps91
  go_wp2_with fail
  go_region_with (go_at_call 160; refine (e_a _).mono ?_; rintro e w1 ⟨⟨B, rfl, hown, hB1, hB2⟩, hb1⟩; have hcur := a_4 (show Below (w.heap.size + 1) (w.alloc (i_b 21 0 0 ⟨#[]⟩ nm a)) _ from zX) s_ hb1; obtain ⟨k0, k1, k2, k3, k4, k5, k6⟩ := b_k hcur; obtain ⟨c, hrun, _⟩ := n_X hown nm HN.out; clear hown hb1)
  all_goals
   generalize biB (bs nm) = b at *; clear hB1 hB2
   go_wp2_with (first
    | (go_at_call 88; refine (H1.out _).mono ?_; rintro e w1 ⟨rfl, hb1⟩; have hcur := a_4 hcur s_ hb1; obtain ⟨k0, k1, k2, k3, k4, k5, k6⟩ := b_k hcur; clear hb1)
    | (go_at_call 89; refine (HR.out _ (a_5 hcur)).mono ?_; rintro e w1 ⟨rfl, rfl⟩))
   all_goals
    go_ret
    refine ⟨a_g ?_, by first | exact a_5 hcur | exact zX⟩; have he := HE.out; clear HE H1 HR; rw [he]; clear he
    grind
 all_goals
  go_enter func91, ntmps91
  go_wp2
  go_ret
  refine ⟨a_g ?_, zX⟩
  rw [HE.out]; rfl
set_option maxRecDepth 512
theorem h_H (op k m a : Int) (x nm : ByteArray) (w : World) (hW : a_X w 2 a_J) (hn : nm.size ≤ maxLen) : Calls prog 91 #[ndV op k m x nm a] w fun e w' => e = .returned (.bool (a_L op k m (bs x) (bs nm) a)) ∧ Below w.heap.size w w' := by
 by_cases h0 : op = 0
 ·subst h0; exact p_c k m a x nm w hW
 by_cases h1 : op = 1
 ·subst h1; exact p_a k m a x nm w hW
 by_cases h20 : op = 20
 ·subst h20; exact o_A k m a x nm w hW hn
 by_cases h21 : op = 21
 ·subst h21; exact n_c k m a x nm w hW hn
 exact j_Y op k m a x nm w hW h0 h1 h20 h21
end Go.Proofs.YtmbeeefkpgfgmaaGreatDoor
