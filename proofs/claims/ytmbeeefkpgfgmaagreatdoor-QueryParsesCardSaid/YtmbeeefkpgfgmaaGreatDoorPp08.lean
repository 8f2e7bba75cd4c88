/- Parts of the proof. -/
import Derived.Deep.LoopGhost
import Derived.Test.YtmbeeefkpgfgmaaGreatDoorPp07
import Derived.Test.YtmbeeefkpgfgmaaGreatDoorPp06
set_option linter.unusedVariables false
set_option linter.unusedSimpArgs false
set_option maxHeartbeats 4000000
namespace Go.Proofs.YtmbeeefkpgfgmaaGreatDoor
open Go.Proofs.Tryz
open Go.RowKit
theorem m_X {c : UInt8} (h : c_c c = true) : ((c.toNat : Int) == 32) = true ∨ (((c.toNat : Int) == 32) = false ∧ ((c.toNat : Int) == 9) = true) ∨ (((c.toNat : Int) == 32) = false ∧ ((c.toNat : Int) == 9) = false ∧ ((c.toNat : Int) == 10) = true) := by
 unfold c_c at h; simp at h; simp; omega
theorem o_j {c : UInt8} (h : c_c c = false) : ((c.toNat : Int) == 32) = false ∧ ((c.toNat : Int) == 9) = false ∧ ((c.toNat : Int) == 10) = false := by
 unfold c_c at h; simp at h; simp; omega
def g_s (s : ByteArray) (i j : Nat) : Prop := i ≤ j ∧ j ≤ s.size ∧ ∀ acc, b_H (bs s) i acc → b_H (bs s) j acc
theorem g_s.refl {s : ByteArray} {i : Nat} (h : i ≤ s.size) : g_s s i i := ⟨l_ _, h, fun _ h => h⟩
theorem g_s.blank {s : ByteArray} {i j : Nat} (h : g_s s i j) (hj : j < s.size) (hb : c_c s[j] = true) : g_s s i (j + 1) :=
 ⟨by have := h.1; omega, hj, fun acc ha => f_a (h.2.2 acc ha) hj hb⟩
theorem g_s.line {s : ByteArray} {i j : Nat} (h : g_s s i j) (hj : j < s.size) (hb : c_c s[j] = false) (hc : s[j].toNat = 35) : g_s s i (j + b_w ((bs s).drop j)) := by
 have hle := j_g ((bs s).drop j)
 rw [List.length_drop, a_b] at hle
 exact ⟨by have := h.1; omega, o_, fun acc ha => (f_N (h.2.2 acc ha) hj hb hc).1⟩
def j_3 (s : ByteArray) (j : Nat) : Prop := ∀ h : j < s.size, c_c s[j] = false ∧ s[j].toNat ≠ 35
theorem l_C : ∀ (l : a_3) (m : Nat), m < b_w l → ∃ h : m < l.length, (l[m]'h).toNat ≠ 10
 | [], m, h => by simp [b_w] at h
 | c :: l, m, h => by
  unfold b_w at h
  rw [List.takeWhile_cons] at h
  by_cases hc : (c.toNat != 10) = true
  ·rw [if_pos hc] at h
   match m with
   | 0 => exact ⟨s_, by simpa using hc⟩
   | m + 1 =>
    obtain ⟨h1, h2⟩ := l_C l m (by simpa [b_w] using h); exact t_F
  ·rw [if_neg hc] at h; simp at h
theorem i_L : ∀ (l : a_3) (h : b_w l < l.length), (l[b_w l]'h).toNat = 10
 | [], h => by simp [b_w] at h
 | c :: l, h => by
  by_cases hc : (c.toNat != 10) = true
  ·have e : b_w (c :: l) = b_w l + 1 := by unfold b_w; rw [List.takeWhile_cons, if_pos hc]; simp
   have h' : b_w l < l.length := by rw [e] at h; simpa using h
   have := i_L l h'
   simpa [e] using this
  ·have e : b_w (c :: l) = 0 := by unfold b_w; rw [List.takeWhile_cons, if_neg hc]; simp
   simp only [e]
   simpa using hc
theorem r_r {s : ByteArray} {k m : Nat} (h : m < b_w ((bs s).drop k)) : ∃ h : k + m < s.size, s[k + m].toNat ≠ 10 := by
 obtain ⟨h1, h2⟩ := l_C _ _ h
 rw [List.length_drop, a_b] at h1
 refine ⟨o_, ?_⟩
 rw [List.getElem_drop] at h2
 exact h2
theorem q_i {s : ByteArray} {k : Nat} (h : k + b_w ((bs s).drop k) < s.size) : (s[k + b_w ((bs s).drop k)]).toNat = 10 := by
 have := i_L ((bs s).drop k) (by rw [List.length_drop, a_b]; omega)
 rw [List.getElem_drop] at this
 exact this
set_option maxRecDepth 100000
theorem f_R (s : ByteArray) (i : Nat) (w : World) (hs : s.size ≤ maxLen) (hi : i ≤ s.size) :
  Calls prog 78 #[.string s, .int .i64 i] w fun e w' => (∃ j : Nat, e = .returned (.int .i64 j) ∧ Hid (g_s s i j) ∧ Hid (j_3 s j)) ∧ w = w' := by
 unfold maxLen at hs
 go_enter func78, ntmps78
 go_wp2
 go_loop [1] (fun a => ∃ k : Nat, k ≤ s.size ∧ a = .int .i64 k ∧ Hid (g_s s i k)) (fun a => s.size - (intOf a).toNat)
 case atStart => exact ⟨i, hi, rfl, g_s.refl hi⟩
 case round =>
  obtain ⟨k, hk, rfl, HS⟩ := hrel
  by_cases hlt : k < s.size
  ·cases hb : c_c s[k]
   ·obtain ⟨b1, b2, b3⟩ := o_j hb
    by_cases h35 : s[k].toNat = 35
    ·have b4 : ((s[k].toNat : Int) == 35) = true := by simp; omega
     have HS2 := a_0 (g_s.line HS.out hlt hb h35); have hle := HS2.out.2.1; have hpos : 1 ≤ b_w ((bs s).drop k) := by rw [b_V s k hlt]; exact f_C h35
     have HI := a_0 (fun m (h : m < b_w ((bs s).drop k)) => r_r h); have HO := a_0 (fun (h : k + b_w ((bs s).drop k) < s.size) => q_i h); clear hb h35; generalize b_w ((bs s).drop k) = n at *
     go_wp2
     go_loop [1] (fun a => ∃ m : Nat, m ≤ n ∧ a = .int .i64 (k + m)) (fun a => k + n - (intOf a).toNat)
     case atStart => exact ⟨0, o_, s_⟩
     case round =>
      obtain ⟨m, hm, rfl⟩ := hrel
      by_cases hmn : m < n
      ·obtain ⟨g1, g2⟩ := HI.out m hmn
       have g3 : ((s[k+m].toNat : Int) != 10) = true := by simp; omega
       clear g2
       go_wp2
       go_round
       case rel => exact ⟨m + 1, o_, t_⟩
       case measure => simp [intOf]; omega
      ·obtain rfl : m = n := by omega
       have hx : ¬ k + m < s.size ∨ ∃ h : k + m < s.size, ((s[k+m].toNat : Int) != 10) = false := by
        by_cases h : k + m < s.size
        ·exact .inr ⟨h, by have := HO.out h; simp; omega⟩
        ·exact .inl h
       rcases hx with hx | ⟨hx, hx2⟩
       all_goals
        go_wp2
        exact ⟨⟨k + m, o_, t_, HS2⟩, w_⟩
    ·have b4 : ((s[k].toNat : Int) == 35) = false := by simp; omega
     have HT := a_0 (show j_3 s k from fun _ => ⟨hb, h35⟩); clear hb h35
     go_wp2
     go_ret
     exact ⟨⟨k, rfl, HS, HT⟩, rfl⟩
   ·have HS2 := a_0 (g_s.blank HS.out hlt hb)
    rcases m_X hb with b1 | ⟨b1, b2⟩ | ⟨b1, b2, b3⟩
    all_goals
     clear hb
     go_wp2
     exact ⟨⟨k + 1, o_, t_, HS2⟩, w_⟩
  ·obtain rfl : k = s.size := by omega
   have HT := a_0 (show j_3 s s.size from fun h => absurd h hlt)
   go_wp2
   go_ret
   exact ⟨⟨s.size, rfl, HS, HT⟩, rfl⟩
set_option maxRecDepth 512
def j_v (l : a_3) : a_3 := (a_l.find? (fun x => x.isPrefixOf l)).getD []
theorem l_P {l x : a_3} {k : Nat} (hk : k < a_l.length) (hn : ∀ j, j < k → (a_l.getD j []).isPrefixOf l = false) (hx : a_l.getD k [] = x) (h : x.isPrefixOf l = true) : j_v l = x := by
 have : a_l.find? (fun x => x.isPrefixOf l) = some x := by
  rw [List.find?_eq_some_iff_getElem]
  refine ⟨h, k, hk, ?_, fun j hj => ?_⟩
  ·rw [← hx, List.getD, List.getElem?_eq_getElem hk]; rfl
  ·have := hn j hj
   rw [List.getD, List.getElem?_eq_getElem (Nat.lt_trans hj hk)] at this
   simpa using this
 unfold j_v; rw [this]; rfl
theorem o_b {l : a_3} (hn : ∀ j, j < a_l.length → (a_l.getD j []).isPrefixOf l = false) : j_v l = [] := by
 have : a_l.find? (fun x => x.isPrefixOf l) = none := by
  rw [List.find?_eq_none]
  intro x hx
  obtain ⟨j, hj, e⟩ := List.mem_iff_getElem.1 hx
  have := hn j hj
  rw [List.getD, List.getElem?_eq_getElem hj, Option.getD_some, e] at this
  simp [this]
 unfold j_v; rw [this]; rfl
theorem n_r (l : a_3) : m_5 l = if j_v l = [] then .error 3 else .ok (⟨5, j_v l, 0, 0⟩, (j_v l).length) := by
 unfold m_5 j_v
 cases h : a_l.find? (fun x => x.isPrefixOf l) with
 | none => rfl
 | some x =>
  have h2 := List.mem_of_find?_eq_some h
  have h4 : ∀ y ∈ a_l, y ≠ [] := by decide
  simp only [Option.getD_some]
  rw [if_neg (h4 x h2)]
theorem q_8 : ∀ (k : Nat) (hk : k < (⟨#[40, 41, 44, 59, 58, 124, 61, 43, 45, 42, 47, 37, 60, 62]⟩ : ByteArray).size), a_l.getD (4 + k) [] = [(⟨#[40, 41, 44, 59, 58, 124, 61, 43, 45, 42, 47, 37, 60, 62]⟩ : ByteArray)[k]] := by
 have h : ∀ k, k < 14 → a_l.getD (4 + k) [] = [[40, 41, 44, 59, 58, 124, 61, 43, 45, 42, 47, 37, 60, 62].getD k 0] := by decide
 intro k hk
 have hk' : k < 14 := hk
 rw [h k hk']
 have e : (⟨#[40, 41, 44, 59, 58, 124, 61, 43, 45, 42, 47, 37, 60, 62]⟩ : ByteArray)[k] = ([40, 41, 44, 59, 58, 124, 61, 43, 45, 42, 47, 37, 60, 62] : a_3)[k]'hk' := rfl
 rw [e, List.getD, List.getElem?_eq_getElem hk', Option.getD_some]
theorem r_O {s : ByteArray} {x : a_3} (hx : x.length = 2) (h2 : 2 ≤ s.size) : x.isPrefixOf (bs s) = ((s.extract 0 2).toList == x) := by
 rw [Bool.eq_iff_iff]
 have := i_K ⟨x.toArray⟩ s
 rw [p_M] at this
 rw [this]
 have e : (⟨x.toArray⟩ : ByteArray).size = 2 := by rw [← hx]; rfl
 rw [e, beq_iff_eq, ByteArray.toList_eq]
 constructor
 ·rintro ⟨_, h⟩; rw [h]
 ·intro h; exact ⟨h2, o_s h⟩
theorem n_k {s : ByteArray} {x : a_3} (hx : x.length = 2) (h2 : ¬ 2 ≤ s.size) : x.isPrefixOf (bs s) = false := by
 cases h : x.isPrefixOf (bs s)
 ·rfl
 ·have := (List.isPrefixOf_iff_prefix.1 h).length_le
  rw [a_b] at this; omega
theorem q_Y {s : ByteArray} (h0 : 0 < s.size) (c : UInt8) : [c].isPrefixOf (bs s) = ((s[0].toNat : Int) == (c.toNat : Int)) := by
 have e : bs s = s[0] :: (bs s).drop 1 := by have := b_V s 0 h0; simpa using this
 rw [e, Bool.eq_iff_iff]
 simp only [List.isPrefixOf, Bool.and_true, beq_iff_eq]
 constructor
 ·rintro rfl; rfl
 ·intro h; exact UInt8.toNat_inj.1 o_
set_option maxRecDepth 100000
theorem e_M (s : ByteArray) (w : World) (hs : s.size ≤ maxLen) (h0 : 0 < s.size) :
  Calls prog 127 #[.string s] w fun e w' => e = .returned (str (j_v (bs s))) ∧ Below w.heap.size w w' := by
 unfold maxLen at hs
 have HP2 := a_0 (fun k (hk : k < 4) => show (a_l.getD k []).length = 2 from (by decide : ∀ k, k < 4 → (a_l.getD k []).length = 2) k hk)
 go_enter func127, ntmps127
 go_wp2
 go_loopw [4] (fun i wr => ∃ k : Nat, k ≤ 4 ∧ i = .int .i64 k ∧ Hid (∀ j, j < k → (a_l.getD j []).isPrefixOf (bs s) = false) ∧ Below w.heap.size w wr ∧ Hid (∀ j, j < 4 → wr.cell? ⟨w.heap.size, j, none⟩ = some (str (a_l.getD j [])))) (fun i _ => 4 - (intOf i).toNat)
 case atStart => exact ⟨0, o_, rfl, fun j h => absurd h (Nat.not_lt_zero _), (b_ _ _).alloc (l_ _) _, fun j hj => by
  rw [a_2 (heap_alloc_new w _)]
  match j, hj with
  | 0, _ => rfl
  | 1, _ => rfl
  | 2, _ => rfl
  | 3, _ => rfl⟩
 case round =>
  obtain ⟨k, hk, rfl, HN, hbel, HC⟩ := hrel
  by_cases hlt : k < 4
  ·have hx := HC.out k hlt
   have hx2 := HP2.out k hlt; generalize hxe : a_l.getD k [] = x at *; have HX := a_0 hxe; clear hxe
   by_cases h2 : 2 ≤ s.size
   ·have a2 : decide ((2 : Int) ≤ (s.size : Int)) = true := by simp; omega
    have hpe := r_O hx2 h2; clear hx2
    cases hp : ((s.extract 0 2).toList == x)
    ·have HN' := a_0 (show ∀ j, j < k + 1 → (a_l.getD j []).isPrefixOf (bs s) = false from fun j h => by
      by_cases e : j = k
      ·subst e; rw [HX.out, hpe, hp]
      ·exact HN.out j o_)
     clear hpe
     go_wp2
     go_big_quiet (fail)
     go_wp2
     exact ⟨⟨k + 1, o_, t_, HN', a_f hbel _, HC⟩, w_⟩
    ·have HE := a_0 (show j_v (bs s) = x from l_P (show k < a_l.length by have : a_l.length = 18 := rfl; omega) HN.out HX.out (by rw [hpe, hp]))
     clear hpe
     go_wp2
     go_big_quiet (fail)
     go_wp2
     go_ret
     exact ⟨by rw [HE.out]; rfl, a_f hbel _⟩
   ·have a2 : decide ((2 : Int) ≤ (s.size : Int)) = false := by simp; omega
    have hpe := n_k (x := x) hx2 h2; clear hx2
    have HN' := a_0 (show ∀ j, j < k + 1 → (a_l.getD j []).isPrefixOf (bs s) = false from fun j h => by
      by_cases e : j = k
      ·subst e; rw [HX.out, hpe]
      ·exact HN.out j o_)
    clear hpe
    go_wp2
    go_big_quiet (fail)
    go_wp2
    exact ⟨⟨k + 1, o_, t_, HN', a_f hbel _, HC⟩, w_⟩
  ·obtain rfl : k = 4 := by omega
   clear HC; have a1 : decide ((1 : Int) ≤ (s.size : Int)) = true := by simp; omega
   obtain ⟨wo, rfl⟩ : ∃ wo : World, wo = wr := ⟨_, rfl⟩
   go_wp2
   go_loopw [6] (fun i wr => ∃ k : Nat, k ≤ 14 ∧ i = .int .i64 k ∧ Hid (∀ j, j < 4 + k → (a_l.getD j []).isPrefixOf (bs s) = false) ∧ Below w.heap.size w wr) (fun i _ => 14 - (intOf i).toNat)
   case atStart => exact ⟨0, o_, rfl, HN, hbel⟩
   case round =>
    obtain ⟨k, hk, rfl, HN2, hbel2⟩ := hrel
    by_cases hlt2 : k < 14
    ·have hko : k < (⟨#[40, 41, 44, 59, 58, 124, 61, 43, 45, 42, 47, 37, 60, 62]⟩ : ByteArray).size := hlt2
     have HX := a_0 (q_8 k hko); have hpe := q_Y h0 (⟨#[40, 41, 44, 59, 58, 124, 61, 43, 45, 42, 47, 37, 60, 62]⟩ : ByteArray)[k]
     cases hp : ((s[0].toNat : Int) == ((⟨#[40, 41, 44, 59, 58, 124, 61, 43, 45, 42, 47, 37, 60, 62]⟩ : ByteArray)[k].toNat : Int))
     ·have HN' := a_0 (show ∀ j, j < 4 + (k + 1) → (a_l.getD j []).isPrefixOf (bs s) = false from fun j h => by
       by_cases e : j = 4 + k
       ·subst e; rw [HX.out, hpe, hp]
       ·exact HN2.out j o_)
      clear hpe
      go_wp2
      go_big_quiet (fail)
      go_wp2
      exact ⟨⟨k + 1, o_, t_, HN', a_f hbel2 _⟩, w_⟩
     ·have HE := a_0 (show j_v (bs s) = [(⟨#[40, 41, 44, 59, 58, 124, 61, 43, 45, 42, 47, 37, 60, 62]⟩ : ByteArray)[k]] from l_P (show 4 + k < a_l.length by have : a_l.length = 18 := rfl; omega) HN2.out HX.out (by rw [hpe, hp]))
      have HV := a_0 (show Value.string (s.extract 0 1) = str (j_v (bs s)) by
       rw [HE.out, f_t]; have e : bs s = s[0] :: (bs s).drop 1 := by have := b_V s 0 h0; simpa using this
       have e2 : s[0] = (⟨#[40, 41, 44, 59, 58, 124, 61, 43, 45, 42, 47, 37, 60, 62]⟩ : ByteArray)[k] := by
        have : (s[0].toNat : Int) = ((⟨#[40, 41, 44, 59, 58, 124, 61, 43, 45, 42, 47, 37, 60, 62]⟩ : ByteArray)[k].toNat : Int) := by simpa using hp
        exact UInt8.toNat_inj.1 o_
       rw [e, List.take_succ_cons, List.take_zero, e2])
      clear hpe
      go_wp2
      go_big_quiet (fail)
      go_wp2
      go_ret
      exact ⟨by rw [← HV.out]; rfl, a_f hbel2 _⟩
    ·obtain rfl : k = 14 := by omega
     have HE := a_0 (show j_v (bs s) = [] from o_b HN2.out)
     go_wp2
     go_ret
     exact ⟨by rw [HE.out]; rfl, hbel2⟩
set_option maxRecDepth 512
theorem l_e {l : a_3} {t : Tok} {n : Nat} (h : c_l l = .ok (t, n)) : t = ⟨1, l.take n, 0, 0⟩ := by
 unfold c_l at h
 split at h
 ·cases h
 ·split at h
  ·split at h
   ·cases h
   ·injection h with h; injection h with h1 h2; rw [← h1, ← h2]
  ·injection h with h; injection h with h1 h2; rw [← h1, ← h2]
theorem m_N {l : a_3} {t : Tok} {n : Nat} (h : i_O l = .ok (t, n)) : t = ⟨2, [], t.num, 0⟩ := by
 rw [h_E] at h
 split at h
 ·cases h
 ·split at h
  ·cases h
  ·injection h with h; injection h with h1 h2; rw [← h1]
theorem m_R {l : a_3} {t : Tok} {n : Nat} (h : i_h l = .ok (t, n)) : t = ⟨3, t.text, 0, 0⟩ := by
 unfold i_h at h
 split at h
 ·cases h
 ·split at h
  ·cases h
  ·injection h with h; injection h with h1 h2; rw [← h1]
theorem p_o {l : a_3} {t : Tok} {n : Nat} (h : c_l l = .ok (t, n)) : n ≤ l.length := by
 have h2 := c_D l
 have h3 := c_D (l.drop (a_s l + 1))
 unfold c_l at h
 split at h
 ·cases h
 ·split at h
  ·rename_i hd
   have hd' : a_s l + 1 < l.length := by
    unfold p_7 at hd
    by_cases h : a_s l + 1 < l.length
    ·exact h
    ·rw [dif_neg h] at hd; cases hd
   rw [List.length_drop] at h3
   split at h
   ·cases h
   ·injection h with h; injection h with _ h; omega
  ·injection h with h; injection h with _ h; omega
set_option maxRecDepth 100000
theorem g_4 (s : ByteArray) (w : World) (hs : s.size ≤ 65536) (h0 : 0 < s.size) :
  Calls prog 79 #[.string s] w fun e w' => f_d (e_Y (bs s)) e ∧ Below w.heap.size w w' := by
 have hr := o_P s h0
 have hsm : s.size ≤ maxLen := by unfold maxLen; omega
 have hsm' : s.size ≤ 140737488355328 := by omega
 by_cases c1 : c_K s[0] = true
 ·cases hn : c_l (bs s) with
  | error er =>
   have H := a_0 (show e_Y (bs s) = .error er by rw [hr, if_pos c1, hn]); have HN := a_0 hn; clear hr hn
   go_enter func79, ntmps79
   go_wp2_with (first
    | (go_at_call 121; refine (a_m _ _).mono ?_; rintro e w' ⟨rfl, rfl⟩))
   refine (f_Y _ _ hsm).mono ?_; rintro e w1 ⟨hres, rfl⟩; rw [HN.out] at hres; obtain ⟨hc0, rfl⟩ := hres; have HC := a_0 hc0; clear hc0
   go_wp2
   refine bodyPost_ret (v := .tuple #[.agg #[.int .i64 1, .string (s.extract 0 0), .int .i64 0, .int .i64 0], .int .i64 0, .int .i64 er]) (by simp [results, results79, go_sem]) rfl ⟨by rw [f_t]; exact b_C H.out HC.out _ _ _ _ _, ?_⟩; exact zX
  | ok x =>
   obtain ⟨t, n⟩ := x; have H := a_0 (show e_Y (bs s) = .ok (t, n) by rw [hr, if_pos c1, hn]); have HN := a_0 hn; have HT := a_0 (l_e hn); have hle := p_o hn; rw [a_b] at hle; clear hr hn
   go_enter func79, ntmps79
   go_wp2_with (first
    | (go_at_call 121; refine (a_m _ _).mono ?_; rintro e w' ⟨rfl, rfl⟩))
   refine (f_Y _ _ hsm).mono ?_; rintro e w1 ⟨hres, rfl⟩; rw [HN.out] at hres; obtain rfl : e = .returned (.tuple #[.int .i64 (n : Nat), .int .i64 0]) := hres
   go_wp2
   refine bodyPost_ret (v := .tuple #[.agg #[.int .i64 1, .string (s.extract 0 n), .int .i64 0, .int .i64 0], .int .i64 n, .int .i64 0]) (by simp [results, results79, go_sem]) rfl ⟨c_I H.out (by rw [HT.out, f_t]) rfl, ?_⟩; exact zX
 rw [if_neg c1] at hr
 have c1' : c_K s[0] = false := by simpa using c1
 clear c1
 by_cases c2 : c_T s[0] = true
 ·cases hn : i_O (bs s) with
  | error er =>
   have H := a_0 (show e_Y (bs s) = .error er by rw [hr, if_pos c2, hn]); have HN := a_0 hn; clear hr hn
   go_enter func79, ntmps79
   go_wp2_with (first
    | (go_at_call 121; refine (a_m _ _).mono ?_; rintro e w' ⟨rfl, rfl⟩)
    | (go_at_call 123; refine (a_A _ _).mono ?_; rintro e w' ⟨rfl, rfl⟩))
   refine (e_f _ _ hsm h0).mono ?_; rintro e w1 ⟨hres, rfl⟩; rw [HN.out] at hres; obtain ⟨hc0, rfl⟩ := hres; have HC := a_0 hc0; clear hc0
   go_wp2
   refine bodyPost_ret (v := .tuple #[.agg #[.int .i64 2, str [], .int .i64 0, .int .i64 0], .int .i64 0, .int .i64 er]) (by simp [results, results79, go_sem]) rfl ⟨b_C H.out HC.out _ _ _ _ _, ?_⟩; exact zX
  | ok x =>
   obtain ⟨t, n⟩ := x; have H := a_0 (show e_Y (bs s) = .ok (t, n) by rw [hr, if_pos c2, hn]); have HN := a_0 hn; have HT := a_0 (m_N hn); clear hr hn
   go_enter func79, ntmps79
   go_wp2_with (first
    | (go_at_call 121; refine (a_m _ _).mono ?_; rintro e w' ⟨rfl, rfl⟩)
    | (go_at_call 123; refine (a_A _ _).mono ?_; rintro e w' ⟨rfl, rfl⟩))
   refine (e_f _ _ hsm h0).mono ?_; rintro e w1 ⟨hres, rfl⟩; rw [HN.out] at hres; obtain rfl : e = .returned (.tuple #[.int .i64 t.num, .int .i64 (n : Nat), .int .i64 0]) := hres
   go_wp2
   refine bodyPost_ret (v := .tuple #[.agg #[.int .i64 2, str [], .int .i64 t.num, .int .i64 0], .int .i64 n, .int .i64 0]) (by simp [results, results79, go_sem]) rfl ⟨c_I H.out (by rw [HT.out]) rfl, ?_⟩; exact zX
 rw [if_neg c2] at hr
 have c2' : c_T s[0] = false := by simpa using c2
 clear c2
 by_cases c3 : s[0].toNat = 39
 ·have c3' : ((s[0].toNat : Int) == 39) = true := by simp; omega
  cases hn : i_h (bs s) with
  | error er =>
   have H := a_0 (show e_Y (bs s) = .error er by rw [hr, if_pos c3, hn]); have HN := a_0 hn; clear hr hn c3
   go_enter func79, ntmps79
   go_wp2_with (first
    | (go_at_call 121; refine (a_m _ _).mono ?_; rintro e w' ⟨rfl, rfl⟩)
    | (go_at_call 123; refine (a_A _ _).mono ?_; rintro e w' ⟨rfl, rfl⟩))
   refine (f_M _ _ hsm' h0).mono ?_; rintro e w1 ⟨hres, hb⟩; rw [HN.out] at hres; obtain ⟨hc0, rfl⟩ := hres; have HC := a_0 hc0; clear hc0; refine q_r ?_; intro k0 k1 k2 k3 f0 f1 f2 f3 hz hb0; clear hb
   go_wp2
   refine bodyPost_ret (v := .tuple #[.agg #[.int .i64 3, str [], .int .i64 0, .int .i64 0], .int .i64 0, .int .i64 er]) (by simp [results, results79, go_sem, k0, k1, k2, k3]) rfl ⟨b_C H.out HC.out _ _ _ _ _, ?_⟩; exact zX
  | ok x =>
   obtain ⟨t, n⟩ := x; have H := a_0 (show e_Y (bs s) = .ok (t, n) by rw [hr, if_pos c3, hn]); have HN := a_0 hn; have HT := a_0 (m_R hn); clear hr hn c3
   go_enter func79, ntmps79
   go_wp2_with (first
    | (go_at_call 121; refine (a_m _ _).mono ?_; rintro e w' ⟨rfl, rfl⟩)
    | (go_at_call 123; refine (a_A _ _).mono ?_; rintro e w' ⟨rfl, rfl⟩))
   refine (f_M _ _ hsm' h0).mono ?_; rintro e w1 ⟨hres, hb⟩; rw [HN.out] at hres; obtain rfl : e = .returned (.tuple #[str t.text, .int .i64 (n : Nat), .int .i64 0]) := hres; refine q_r ?_; intro k0 k1 k2 k3 f0 f1 f2 f3 hz hb0; clear hb
   go_wp2
   refine bodyPost_ret (v := .tuple #[.agg #[.int .i64 3, str t.text, .int .i64 0, .int .i64 0], .int .i64 n, .int .i64 0]) (by simp [results, results79, go_sem, k0, k1, k2, k3]) rfl ⟨c_I H.out (by rw [HT.out]) rfl, ?_⟩; exact zX
 rw [if_neg c3] at hr
 have c3' : ((s[0].toNat : Int) == 39) = false := by simp; omega
 clear c3
 by_cases c4 : s[0].toNat = 64
 ·have c4' : ((s[0].toNat : Int) == 64) = true := by simp; omega
  have H := a_0 (show e_Y (bs s) = atS (bs s) by rw [hr, if_pos c4])
  clear hr c4
  by_cases h17 : s.size < 17
  ·have HE := a_0 (show e_Y (bs s) = .error 3 by rw [H.out, atS, if_pos (by rw [a_b]; exact h17)])
   go_enter func79, ntmps79
   go_wp2_with (first
    | (go_at_call 121; refine (a_m _ _).mono ?_; rintro e w' ⟨rfl, rfl⟩)
    | (go_at_call 123; refine (a_A _ _).mono ?_; rintro e w' ⟨rfl, rfl⟩))
   refine bodyPost_ret (v := .tuple #[.agg #[.int .i64 0, str [], .int .i64 0, .int .i64 0], .int .i64 0, .int .i64 3]) (by simp [results, results79, go_sem]) rfl ⟨b_C HE.out d_ _ _ _ _ _, ?_⟩; exact zX
  ·go_enter func79, ntmps79
   go_wp2_with (first
    | (go_at_call 121; refine (a_m _ _).mono ?_; rintro e w' ⟨rfl, rfl⟩)
    | (go_at_call 123; refine (a_A _ _).mono ?_; rintro e w' ⟨rfl, rfl⟩))
   refine (i_p _ _ (by unfold maxLen; simp; omega)).mono ?_; rintro e w1 ⟨hres, hb⟩; obtain ⟨n, c, rfl⟩ := f_E hres; rw [b_B] at hres; have HR := a_0 (i_B (by rw [a_b]; exact h17) hres); clear hres; refine q_r ?_; intro k0 k1 k2 k3 f0 f1 f2 f3 hz hb0; clear hb
   go_wp2
   refine bodyPost_ret (v := .tuple #[.agg #[.int .i64 4, str [], .int .i64 n, .int .i64 0], .int .i64 17, .int .i64 c]) (by simp [results, results79, go_sem, k0, k1, k2, k3]) rfl ⟨by rw [H.out]; exact HR.out, ?_⟩; exact zX
 rw [if_neg c4] at hr
 have c4' : ((s[0].toNat : Int) == 64) = false := by simp; omega
 have hr2 := hr.trans (n_r (bs s))
 clear c4 hr
 have HS := a_0 (fun W => e_M s W hsm h0)
 generalize j_v (bs s) = y at *
 cases hy : y with
 | nil =>
  have HE := a_0 (show e_Y (bs s) = .error 3 by rw [hr2, if_pos hy])
  subst hy
  clear hr2
  go_enter func79, ntmps79
  go_wp2_with (first
   | (go_at_call 121; refine (a_m _ _).mono ?_; rintro e w' ⟨rfl, rfl⟩)
   | (go_at_call 123; refine (a_A _ _).mono ?_; rintro e w' ⟨rfl, rfl⟩))
  refine (HS.out _).mono ?_
  rintro e w1 ⟨rfl, hb⟩
  refine q_r ?_; intro k0 k1 k2 k3 f0 f1 f2 f3 hz hb0
  clear hb
  go_wp2
  refine bodyPost_ret (v := .tuple #[.agg #[.int .i64 0, str [], .int .i64 0, .int .i64 0], .int .i64 0, .int .i64 3]) (by simp [results, results79, go_sem, k0, k1, k2, k3]) rfl ⟨b_C HE.out d_ _ _ _ _ _, ?_⟩
  exact zX
 | cons c r =>
  have HE := a_0 (show e_Y (bs s) = .ok (⟨5, y, 0, 0⟩, y.length) by rw [hr2, if_neg (by rw [hy]; exact List.cons_ne_nil _ _)])
  have hne : y.isEmpty = false := by rw [hy]; rfl
  have hne2 : (y == []) = false := by rw [hy]; rfl
  clear hr2 hy
  go_enter func79, ntmps79
  go_wp2_with (first
   | (go_at_call 121; refine (a_m _ _).mono ?_; rintro e w' ⟨rfl, rfl⟩)
   | (go_at_call 123; refine (a_A _ _).mono ?_; rintro e w' ⟨rfl, rfl⟩))
  refine (HS.out _).mono ?_
  rintro e w1 ⟨rfl, hb⟩
  refine q_r ?_; intro k0 k1 k2 k3 f0 f1 f2 f3 hz hb0
  clear hb
  go_wp2
  refine bodyPost_ret (v := .tuple #[.agg #[.int .i64 5, str y, .int .i64 0, .int .i64 0], .int .i64 y.length, .int .i64 0]) (by simp [results, results79, go_sem, k0, k1, k2, k3]) rfl ⟨c_I HE.out rfl rfl, ?_⟩
  exact zX
set_option maxRecDepth 100000
theorem i_z (s : ByteArray) (w : World) (hs : s.size ≤ maxLen) :
  Calls prog 30 #[.string s] w fun e w' => l_K w w' (b_z (bs s)) e ∧ Below w.heap.size w w' := by
 have hsm := hs
 unfold maxLen at hs
 by_cases hbig : 65536 < s.size
 ·have H := a_0 (show b_z (bs s) = .error (0, 2) by unfold b_z; rw [a_b, if_pos hbig])
  go_enter func30, ntmps30
  go_wp2
  go_ret3
  refine ⟨?_, b_ _ _⟩
  rw [H.out]; exact rfl
 ·have H := a_0 (show b_z (bs s) = a_U (bs s).length (bs s) 0 by unfold b_z; rw [a_b, if_neg hbig])
  obtain ⟨i0, hi, hz0, hz1, hz2⟩ := info_parts Tryz.info_tok
  go_enter func30, ntmps30
  go_wp2_with fail
  refine (f_R s 0 _ hsm (Nat.zero_le _)).mono ?_
  rintro e w' ⟨⟨j0, rfl, HK, HT⟩, rfl⟩
  go_wp2
  go_loopw [2, 5] (fun v i wr => ∃ (k : Nat) (acc : List Tok) (A : Option Addr) (c : Nat), v = .slice A acc.length c ∧ i = .int .i64 k ∧ Hid (b_H (bs s) k acc) ∧ Hid (j_3 s k) ∧
    wr.ownsRow w.heap.size 99 4 (.slice A acc.length c) acc.length (c_9 acc) ∧ Below w.heap.size w wr) (fun _ i _ => s.size - (intOf i).toNat)
  case atStart => exact ⟨j0, [], none, 0, rfl, rfl, HK.out.2.2 _ (f_9 _), HT, a_o _ _ _ _, b_ _ _⟩
  case round =>
   obtain ⟨k, acc, A, c, rfl, rfl, HR, HST, hown, hbel⟩ := hrel; obtain ⟨hk, hacc⟩ := h_V HR.out; have hsz := hbel.size
   by_cases hlt : k < s.size
   ·obtain ⟨hb, h35⟩ := HST.out hlt
    cases ho : e_Y ((bs s).drop k) with
    | error er =>
     have HE := a_0 (show b_z (bs s) = _ by rw [H.out, g_P HR.out hlt hb h35 ho]); have HO := a_0 ho; clear ho hb h35
     go_wp2_with fail
     refine (g_4 (s.extract k s.size) _ m_ m_).mono ?_; rintro e w1 ⟨hres, hb1⟩; rw [d_p, HO.out] at hres; obtain ⟨hc0, t, m, rfl⟩ := hres; have hc1 : ((er : Int) != 0) = true := by simpa using hc0
     clear hc0; have hsz1 := hb1.size; have hb2 := e_Q hbel hsz hb1
     go_wp2
     go_ret3
     refine ⟨?_, zX⟩; rw [HE.out]
     rfl
    | ok x =>
     obtain ⟨t, m⟩ := x; obtain ⟨hr2, hp1, hp2⟩ := g_E HR.out hlt hb h35 ho; have HR2 := a_0 hr2; have HO := a_0 ho; clear ho hb h35 hr2
     go_wp2_with fail
     refine (g_4 (s.extract k s.size) _ m_ m_).mono ?_; rintro e w1 ⟨hres, hb1⟩; rw [d_p, HO.out] at hres; obtain rfl : e = .returned (.tuple #[t.agg, .int .i64 (m : Nat), .int .i64 0]) := hres; have hsz1 := hb1.size; have hb2 := e_Q hbel hsz hb1; have hown1 := a_8 hown hb1
     go_wp2_with (at_builtin; refine wpList_append_own _ rfl _ _ 49 rfl w.heap.size 99 i0 _ 4 40 underlying49 hi hz0 hz1 hz2 rfl d_ _ _ _ rfl ((hown1.alloc _).alloc _) ⟨w1.heap.size + 1, 0, none⟩ 1 1 [.int .i64 t.kind, str t.text, .int .i64 t.num, .int .i64 k] rfl rfl (by have h := d_P (w1.alloc (.cells #[.int .i64 t.kind, str t.text, .int .i64 t.num, .int .i64 k] 99)) (.int .i64 t.kind) (str t.text) (.int .i64 t.num) (.int .i64 k) 99; simpa using h) c_ x_ o_ m_ ?_; intro v' w2 hown' hgrow _)
     have hb3 := ((hb2.alloc o_ _).alloc m_ _).grown hgrow m_ (fun k hk => (hown1.lt k hk).1); obtain ⟨A', c', hv⟩ := a_i hown'; have HV := a_0 hv; clear hv; rw [show ((k : Int) + (m : Int)) = ((k + m : Nat) : Int) from by simp]; refine (f_R s (k + m) _ hsm o_).mono ?_; rintro e w' ⟨⟨j, rfl, HK2, HT2⟩, rfl⟩
     go_wp2
     have hj := HK2.out.1; have hj2 := HK2.out.2.1; have hown2 := hown'; rw [HV.out] at hown2; exact ⟨⟨j, acc ++ [{ t with off := k }], A', c', by rw [HV.out]; simp, rfl, HK2.out.2.2 _ HR2.out, HT2, by simpa [Tok.cells] using hown2, hb3⟩, w_⟩
   ·obtain rfl : k = s.size := by omega
    have HE := a_0 (show b_z (bs s) = _ by rw [H.out, e_J HR.out])
    go_wp2_with (at_builtin; refine wpList_append_own _ rfl _ _ 49 rfl w.heap.size 99 i0 _ 4 40 underlying49 hi hz0 hz1 hz2 rfl d_ _ _ _ rfl (hown.alloc _) ⟨wr.heap.size, 0, none⟩ 1 1 [.int .i64 0, .string ⟨#[]⟩, .int .i64 0, .int .i64 s.size] rfl rfl (d_P _ _ _ _ _ _) c_ x_ o_ m_ ?_; intro v' w2 hown' hgrow _)
    refine r_t ?_; intro hb2; obtain ⟨A', c', hv⟩ := a_i hown'; exact v_h
set_option maxRecDepth 512
def d_a (w : World) (A : Option Addr) (ts : List Tok) : Prop :=
 ts = [] ∨ ∃ g off, A = some ⟨g, off, none⟩ ∧ g < w.heap.size ∧ ∀ i (h : i < ts.length),
  w.cell? ⟨g, off + i * 4, none⟩ = some (.int .i64 ts[i].kind) ∧ w.cell? ⟨g, off + i * 4 + 1, none⟩ = some (str ts[i].text) ∧
  w.cell? ⟨g, off + i * 4 + 2, none⟩ = some (.int .i64 ts[i].num) ∧ w.cell? ⟨g, off + i * 4 + 3, none⟩ = some (.int .i64 ts[i].off)
theorem g_R : ∀ (ts : List Tok) (i : Nat) (h : i < ts.length), (c_9 ts)[i * 4]? = some (.int .i64 ts[i].kind) ∧ (c_9 ts)[i * 4 + 1]? = some (str ts[i].text) ∧ (c_9 ts)[i * 4 + 2]? = some (.int .i64 ts[i].num) ∧ (c_9 ts)[i * 4 + 3]? = some (.int .i64 ts[i].off)
 | [], i, h => by simp at h
 | t :: ts, 0, _ => ⟨rfl, rfl, rfl, rfl⟩
 | t :: ts, i + 1, h => by
  obtain ⟨h1, h2, h3, h4⟩ := g_R ts i (by simpa using h)
  have e : ∀ j, (c_9 (t :: ts))[(i + 1) * 4 + j]? = (c_9 ts)[i * 4 + j]? := by
   intro j; rw [show c_9 (t :: ts) = t.cells ++ c_9 ts from rfl, List.getElem?_append_right (by simp [Tok.cells]; omega)]
   congr 1
   simp [Tok.cells]; omega
  exact ⟨by simpa using (e 0).trans h1, (e 1).trans h2, (e 2).trans h3, (e 3).trans h4⟩
theorem g_2 {w : World} {base e c : Nat} {A : Option Addr} {ts : List Tok} (h : w.ownsRow base e 4 (.slice A ts.length c) ts.length (c_9 ts)) : d_a w A ts := by
 rcases h.2 with ⟨_, hn⟩ | ⟨g, cap, cur, hv, hg, hh, hnc, hcap, hsz, htk⟩
 ·exact .inl (List.eq_nil_of_length_eq_zero hn)
 ·injection hv with h1 h2 h3
  subst h1
  refine .inr ⟨g, 0, rfl, a_6 hh, fun i hi => ?_⟩
  have hc : ∀ j, j < ts.length * 4 → w.cell? ⟨g, j, none⟩ = (c_9 ts)[j]? := fun j hj => World.ownsRow.cellAt h j hj
  obtain ⟨h1, h2, h3, h4⟩ := g_R ts i hi
  simp only [Nat.zero_add]
  exact ⟨(hc _ o_).trans h1, (hc _ o_).trans h2, (hc _ o_).trans h3, (hc _ o_).trans h4⟩
theorem d_a.below {w w' : World} {A : Option Addr} {ts : List Tok} (h : d_a w A ts) (hb : Below w.heap.size w w') : d_a w' A ts := by
 rcases h with h | ⟨g, off, hA, hg, hc⟩
 ·exact .inl h
 ·refine .inr ⟨g, off, hA, Nat.lt_of_lt_of_le hg hb.size, fun i hi => ?_⟩
  obtain ⟨h1, h2, h3, h4⟩ := hc i hi
  exact ⟨(hb.cell (p := ⟨g, _, none⟩) hg).trans h1, (hb.cell (p := ⟨g, _, none⟩) hg).trans h2, (hb.cell (p := ⟨g, _, none⟩) hg).trans h3, (hb.cell (p := ⟨g, _, none⟩) hg).trans h4⟩
def q_Q : List ByteArray := a_J.map fun l => ⟨l.toArray⟩
def k_N (ls : List a_3) (x : a_3) : Bool := ls.contains x
def e_g (l : a_3) : Bool := k_N a_J l
theorem f_V (ls : List a_3) (x : ByteArray) : Lib.containsS (ls.map fun l => (⟨l.toArray⟩ : ByteArray)) x = k_N ls (bs x) := by
 unfold k_N
 rw [Bool.eq_iff_iff, Lib.containsS_iff, List.contains_iff_mem, List.mem_map]
 constructor
 ·rintro ⟨l, h, rfl⟩; exact h
 ·intro h; exact ⟨bs x, h, k_0 x⟩
theorem d_i : ∀ (f : Nat) (l : a_3) (i : Nat) (ts : List Tok), a_U f l i = .ok ts → ts.length ≤ f + 1
 | 0, l, i, ts, h => by injection h with h; subst h; simp
 | f + 1, [], i, ts, h => by injection h with h; subst h; simp
 | f + 1, c :: r, i, ts, h => by
  rw [d_D] at h
  split at h
  ·have := d_i f _ _ _ h; omega
  ·split at h
   ·have := d_i f _ _ _ h; omega
   ·split at h
    ·cases h
    ·split at h
     ·cases h
     ·rename_i ts' hg
      injection h with h; subst h; have := d_i f _ _ _ hg
      simp; omega
theorem e_A {l : a_3} {ts : List Tok} (h : b_z l = .ok ts) : ts.length ≤ 65537 := by
 unfold b_z at h
 split at h
 ·cases h
 ·have := d_i _ _ _ _ h; omega
theorem b_M (s : ByteArray) (w : World) (hW : a_X w 2 a_J) : Calls prog 89 #[.string s] w fun e w' => e = .returned (.bool (e_g (bs s))) ∧ w = w' := by
 obtain ⟨hg, b, off, cp, hb, hv, hcells⟩ := hW
 have hl8 : a_J.length = 8 := rfl
 rw [hl8] at hv hcells
 have HC := a_0 hcells
 clear hcells hl8
 go_enter func89, ntmps89
 go_wp2_with fail
 refine (Tryz.slices_Contains_string b off 8 cp q_Q s _ d_ d_ (fun j hj => ?_)).mono ?_
 ·have hj' : j < 8 := hj
  rw [HC.out j hj']
  match j, hj' with
  | 0, _ => rfl
  | 1, _ => rfl
  | 2, _ => rfl
  | 3, _ => rfl
  | 4, _ => rfl
  | 5, _ => rfl
  | 6, _ => rfl
  | 7, _ => rfl
 rintro e w' ⟨rfl, rfl⟩
 have HE := a_0 (show Lib.containsS (q_Q.take 8) s = e_g (bs s) from f_V a_J s)
 go_wp2
 go_ret
 exact ⟨a_g (by rw [← HE.out]), rfl⟩
def b_l (w : World) (A : Option Addr) (ls : List a_3) : Prop :=
 ls = [] ∨ ∃ g off, A = some ⟨g, off, none⟩ ∧ g < w.heap.size ∧ ∀ i (h : i < ls.length), w.cell? ⟨g, off + i, none⟩ = some (str ls[i])
theorem b_l.below {w w' : World} {A : Option Addr} {ls : List a_3} (h : b_l w A ls) (hb : Below w.heap.size w w') : b_l w' A ls := by
 rcases h with h | ⟨g, off, hA, hg, hc⟩
 ·exact .inl h
 ·exact .inr ⟨g, off, hA, Nat.lt_of_lt_of_le hg hb.size, fun i hi => (hb.cell (p := ⟨g, _, none⟩) hg).trans (hc i hi)⟩
theorem r_A {ls : List a_3} {x : a_3} {k : Nat} (hk : k < ls.length) (h : ls[k] = x) : k_N ls x = true := by
 unfold k_N
 rw [List.contains_iff_mem]; exact h ▸ List.getElem_mem hk
theorem p_L {ls : List a_3} {x : a_3} (h : ∀ i (hi : i < ls.length), ls[i] ≠ x) : k_N ls x = false := by
 unfold k_N
 cases hc : ls.contains x
 ·rfl
 ·rw [List.contains_iff_mem, List.mem_iff_getElem] at hc
  obtain ⟨i, hi, e⟩ := hc
  exact absurd e (h i hi)
theorem e_x (A : Option Addr) (ls : List a_3) (c : Nat) (s : ByteArray) (w : World) (ha : b_l w A ls) (hl : ls.length ≤ 1000000) :
  Calls prog 20 #[.slice A ls.length c, .string s] w fun e w' => e = .returned (.bool (k_N ls (bs s))) ∧ w = w' := by
 have HA := a_0 ha
 clear ha
 go_enter func20, ntmps20
 go_wp2
 go_loop [5] (fun i => ∃ k : Nat, k ≤ ls.length ∧ i = .int .i64 k ∧ Hid (∀ i (hi : i < ls.length), i < k → ls[i] ≠ bs s)) (fun i => ls.length - (intOf i).toNat)
 case atStart => exact ⟨0, o_, rfl, fun i _ h => absurd h (Nat.not_lt_zero _)⟩
 case round =>
  obtain ⟨k, hk, rfl, HN⟩ := hrel
  by_cases hlt : k < ls.length
  ·rcases HA.out with h | ⟨g, off, rfl, hg, hc⟩
   ·exact absurd hlt (by rw [h]; simp)
   have hx := hc k hlt; clear hc
   by_cases he : ls[k] = bs s
   ·have HE := a_0 (r_A hlt he)
    have hb : (ls[k] == s.toList) = true := by rw [ByteArray.toList_eq]; simp [he, bs]
    clear he; generalize ls[k] = x at *
    go_wp2
    exact n_E
   ·have HN' := a_0 (show ∀ i (hi : i < ls.length), i < k + 1 → ls[i] ≠ bs s from fun i hi h => by
     by_cases e : i = k
     ·subst e; exact he
     ·exact HN.out i hi o_)
    have hb : (ls[k] == s.toList) = false := by rw [ByteArray.toList_eq]; simpa [bs] using he
    clear he; generalize ls[k] = x at *
    go_wp2
    go_round
    case rel => exact ⟨k + 1, o_, t_, HN'⟩
    case measure => simp [intOf]; omega
  ·have HE := a_0 (p_L (x := bs s) fun i hi => HN.out i hi o_)
   go_wp2
   exact n_E
theorem c_a (s : ByteArray) (w : World) : Calls prog 99 #[.string s] w fun e w' => e = .returned (.bool (e_g (bs s))) ∧ Below w.heap.size w w' := by
 go_enter func99, ntmps99
 go_wp2_with fail
 refine (e_x _ a_J 8 s _ (.inr ⟨w.heap.size, 0, rfl, s_, fun i hi => ?_⟩) d_).mono ?_
 ·have hi' : i < 8 := hi
  rw [a_2 (heap_alloc_new w _)]
  match i, hi' with
  | 0, _ => rfl
  | 1, _ => rfl
  | 2, _ => rfl
  | 3, _ => rfl
  | 4, _ => rfl
  | 5, _ => rfl
  | 6, _ => rfl
  | 7, _ => rfl
 rintro e w' ⟨rfl, rfl⟩
 have HE := a_0 (show k_N a_J (bs s) = e_g (bs s) from rfl)
 go_wp2
 go_ret
 exact ⟨a_g (by rw [← HE.out]), zX⟩
end Go.Proofs.YtmbeeefkpgfgmaaGreatDoor
