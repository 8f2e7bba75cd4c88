/- Parts of the proof. -/
import Derived.Test.YtmbeeefkpgfgmaaGreatDoorPp02
import Derived.Test.YtmbeeefkpgfgmaaGreatDoorPp03
import Derived.Laws.RangeString
import Derived.Laws.RangeAny
import Derived.IntWalk
set_option linter.unusedVariables false
set_option linter.unusedSimpArgs false
set_option maxHeartbeats 2000000
namespace Go.Proofs.YtmbeeefkpgfgmaaGreatDoor
open Go.Proofs.Tryz
open Go.RowKit
def a_p (maxName : Nat) (l : a_3) : Bool := decide (l.length ≤ maxName) && (match l with | [] => false | c :: r => c_K c && r.all b_S)
def c_w (l : a_3) : Nat := (l.takeWhile fun c => c.toNat != 46).length
def a_K (maxName : Nat) (l : a_3) : Bool :=
 if c_w l < l.length then a_p maxName (l.take (c_w l)) && a_p maxName (l.drop (c_w l + 1)) else a_p maxName l
theorem r_H (l : a_3) : c_w l ≤ l.length := (List.takeWhile_sublist _).length_le
theorem l_u : ∀ (l : a_3) (k : Nat) (_ : k < c_w l), ∃ h' : k < l.length, (l[k]'h').toNat ≠ 46
 | [], k, h => by simp [c_w] at h
 | c :: l, k, h => by
  unfold c_w at h
  rw [List.takeWhile_cons] at h
  by_cases hc : (c.toNat != 46) = true
  ·rw [if_pos hc] at h
   match k with
   | 0 => exact ⟨s_, by simpa using hc⟩
   | k + 1 =>
    obtain ⟨h1, h2⟩ := l_u l k (by simpa [c_w] using h); exact t_F
  ·rw [if_neg hc] at h; simp at h
theorem f_T : ∀ (l : a_3) (h : c_w l < l.length), (l[c_w l]'h).toNat = 46
 | [], h => by simp [c_w] at h
 | c :: l, h => by
  by_cases hc : (c.toNat != 46) = true
  ·have e : c_w (c :: l) = c_w l + 1 := by unfold c_w; rw [List.takeWhile_cons, if_pos hc]; simp
   have h' : c_w l < l.length := by rw [e] at h; simpa using h
   have := f_T l h'
   simpa [e] using this
  ·have e : c_w (c :: l) = 0 := by unfold c_w; rw [List.takeWhile_cons, if_neg hc]; simp
   have hc' : c.toNat = 46 := by simpa using hc
   simpa [e] using hc'
theorem j_E : ∀ l : a_3, (Lib.indexByte l 46 < 0 → c_w l = l.length) ∧ (¬ Lib.indexByte l 46 < 0 → Lib.indexByte l 46 = c_w l ∧ c_w l < l.length)
 | [] => by simp [Lib.indexByte, c_w]
 | c :: l => by
  obtain ⟨i1, i2⟩ := j_E l
  have hge := Lib.indexByte_ge l 46
  by_cases hc : c.toNat = 46
  ·have e : c = 46 := by apply UInt8.toNat_inj.1; rw [hc]; rfl
   subst e
   simp [Lib.indexByte, c_w]
  ·have hne : (c == 46) = false := by rw [beq_eq_false_iff_ne]; intro e; subst e; exact hc rfl
   have hn : (c.toNat != 46) = true := by simp [hc]
   have el : c_w (c :: l) = c_w l + 1 := by unfold c_w; rw [List.takeWhile_cons, if_pos hn]; simp
   rw [el]; unfold Lib.indexByte; rw [hne]; simp only [Bool.false_eq_true, if_false]
   by_cases hm : Lib.indexByte l 46 = -1
   ·rw [hm]; simp; rw [i1 o_]
   ·have hm' : (Lib.indexByte l 46 == -1) = false := by simp [hm]
    rw [hm']; simp; have := i2 o_
    omega
def n_6 (x : a_3) : Bool := a_l.contains x
def c_i (k : Int) (x : a_3) (n : Int) : Bool :=
 if k = 0 then x.isEmpty && n == 0
 else if k = 1 then a_K 24 x && n == 0
 else if k = 2 then x.isEmpty && (decide (0 ≤ n) && decide (n ≤ 1073741824))
 else if k = 3 then decide (x.length ≤ 64) && n == 0
 else if k = 4 then x.isEmpty && (decide (0 ≤ n) && decide (n ≤ 575999999))
 else if k = 5 then n_6 x && n == 0
 else false
def Tok.ok (t : Tok) : Bool := c_i t.kind t.text t.num
def a_O : List Tok → Bool
 | [] => false
 | [t] => t.ok && (t.kind == 0)
 | t :: u :: ts => (t.ok && (t.kind != 0)) && a_O (u :: ts)
theorem c_q : ∀ ts : List Tok, a_O ts = true ↔ 0 < ts.length ∧ ∀ i (h : i < ts.length), ts[i].ok = true ∧ (ts[i].kind = 0 ↔ i = ts.length - 1)
 | [] => by simp [a_O]
 | [t] => by
  simp only [a_O, Bool.and_eq_true, beq_iff_eq, List.length_singleton]
  constructor
  ·rintro ⟨h1, h2⟩
   exact ⟨o_, fun i h => by
     obtain rfl : i = 0 := by omega
     exact ⟨h1, by simp [h2]⟩⟩
  ·rintro ⟨_, h⟩
   have h0 := h 0 o_; exact ⟨h0.1, h0.2.2 rfl⟩
 | t :: u :: ts => by
  have ih := c_q (u :: ts)
  simp only [a_O, Bool.and_eq_true, bne_iff_ne, ih]
  simp only [List.length_cons]
  constructor
  ·rintro ⟨⟨h1, h2⟩, _, h3⟩
   refine ⟨o_, fun i h => ?_⟩
   match i with
   | 0 => exact ⟨h1, by simp; exact h2⟩
   | i + 1 =>
    have := h3 i o_; refine ⟨this.1, ?_⟩; have h2 : ((t :: u :: ts)[i + 1].kind = 0 ↔ i = ts.length + 1 - 1) := this.2; rw [h2]
    omega
  ·rintro ⟨_, h⟩
   have h0 := h 0 o_; refine ⟨⟨h0.1, fun e => ?_⟩, o_, fun i hi => ?_⟩
   ·have := h0.2.1 e; omega
   ·have := h (i + 1) o_
    refine ⟨this.1, ?_⟩; have h2 : ((u :: ts)[i].kind = 0 ↔ i + 1 = ts.length + 1 + 1 - 1) := this.2; rw [h2]; omega
def h_N (ts : List Tok) : Int := if a_O ts = true then 0 else 8
theorem g_Q {m : Nat} {s : ByteArray} (h : m < s.size) : a_p m (bs s) = false := by
 unfold a_p
 rw [decide_eq_false (by rw [a_b]; omega)]; rfl
theorem h_m {m : Nat} {s : ByteArray} (h : s.size = 0) : a_p m (bs s) = false := by
 have : bs s = [] := List.eq_nil_of_length_eq_zero h
 rw [this]; simp [a_p]
theorem g_G {m : Nat} {s : ByteArray} (h : 0 < s.size) (hc : c_K s[0] = false) : a_p m (bs s) = false := by
 unfold a_p
 have e : (bs s)[0]'h = s[0] := rfl
 cases hb : bs s with
 | nil => simp
 | cons c r =>
  have : c = s[0] := by rw [← e]; simp [hb]
  simp [this, hc]
theorem f_m {m : Nat} {s : ByteArray} {k : Nat} (h : k < s.size) (hc : b_S s[k] = false) : a_p m (bs s) = false := by
 unfold a_p
 have e : (bs s)[k]'h = s[k] := rfl
 cases hb : bs s with
 | nil => simp
 | cons c r =>
  have e2 : (c :: r)[k]'(by rw [← hb]; exact h) = s[k] := by rw [← e]; simp [hb]
  have : c_K c = false ∨ r.all b_S = false := by
   cases k with
   | zero =>
    left
    have : c = s[0] := e2; rw [this]; exact (h_4 hc).1
   | succ k =>
    right
    rw [List.all_eq_false]; exact ⟨s[k+1], by rw [← e2]; simp, by simp [hc]⟩
  rcases this with h | h <;> simp [h]
theorem g_N {m : Nat} {s : ByteArray} (h0 : 0 < s.size) (h1 : s.size ≤ m) (hc : c_K s[0] = true) (ha : ∀ k (hk : k < s.size), b_S s[k] = true) : a_p m (bs s) = true := by
  unfold a_p
  rw [decide_eq_true (by rw [a_b]; omega)]
  have e : (bs s)[0]'h0 = s[0] := rfl
  cases hb : bs s with
  | nil => have : (bs s).length = 0 := by rw [hb]; rfl
           rw [a_b] at this; omega
  | cons c r =>
    have e1 : c = s[0] := by rw [← e]; simp [hb]
    have : r.all b_S = true := by
      rw [List.all_eq_true]; intro x hx; obtain ⟨i, hi, rfl⟩ := List.mem_iff_getElem.1 hx; have hk : i + 1 < s.size := by rw [← a_b, hb]; simp; omega
      have e3 : (bs s)[i+1]'hk = s[i+1] := rfl; have : r[i] = s[i+1] := by rw [← e3]; simp [hb]
      rw [this]; exact ha _ hk
    simp [e1, hc, this]
theorem i_Y {c : UInt8} (h : c_K c = true) : 97 ≤ c.toNat ∧ c.toNat ≤ 122 := by
 unfold c_K at h; simpa using h
theorem b_W (s : ByteArray) (w : World) :
  Calls prog 162 #[.string s] w fun e w' => e = .returned (.bool (a_p 24 (bs s))) ∧ w = w' := by
 by_cases h0 : s.size = 0
 ·have HE := a_0 (h_m (m := 24) h0)
  have hlt : decide ((s.size : Int) < 1) = true := by simp; omega
  go_enter func162, ntmps162
  go_wp2
  exact n_E
 by_cases h1 : 24 < s.size
 ·have HE := a_0 (g_Q h1)
  have hlt : decide ((s.size : Int) < 1) = false := by simp; omega
  have hgt : decide (24 < (s.size : Int)) = true := by simp; omega
  go_enter func162, ntmps162
  go_wp2
  exact n_E
 have hz : 0 < s.size := by omega
 have hlt : decide ((s.size : Int) < 1) = false := by simp; omega
 have hgt : decide (24 < (s.size : Int)) = false := by simp; omega
 cases hc : c_K s[0] with
 | false =>
  have HE := a_0 (g_G (m := 24) hz hc)
  unfold c_K at hc
  by_cases hA : s[0].toNat < 97
  ·have g1 : decide ((s[0].toNat : Int) < 97) = true := by simp; omega
   clear hc
   go_enter func162, ntmps162
   go_wp2
   exact n_E
  ·have g1 : decide ((s[0].toNat : Int) < 97) = false := by simp; omega
   have g3 : 122 < s[0].toNat := by simp at hc; omega
   have g2 : decide (122 < (s[0].toNat : Int)) = true := by simp; omega
   clear hc
   go_enter func162, ntmps162
   go_wp2
   exact n_E
 | true =>
  have HC := a_0 hc
  have hc' := i_Y hc
  have g1 : decide ((s[0].toNat : Int) < 97) = false := by simp; omega
  have g2 : decide (122 < (s[0].toNat : Int)) = false := by simp; omega
  clear hc
  go_enter func162, ntmps162
  go_wp2
  clear g1 g2 hc' hlt hgt
  go_loop [3] (fun i => ∃ k : Nat, k ≤ s.size ∧ i = .int .i64 k ∧ Hid (∀ j (hj : j < s.size), j < k → b_S s[j] = true)) (fun i => s.size - (intOf i).toNat)
  case atStart => exact ⟨0, o_, rfl, fun j _ h => absurd h (Nat.not_lt_zero _)⟩
  case round =>
   obtain ⟨k, hk, rfl, HN⟩ := hrel
   by_cases hlt : k < s.size
   ·by_cases hw : b_S s[k] = true
    ·have HN' := a_0 (show ∀ j (hj : j < s.size), j < k + 1 → b_S s[j] = true from fun j hj h => by
      by_cases e : j = k
      ·subst e; exact hw
      ·exact HN.out j hj o_)
     by_cases hA : 97 ≤ s[k].toNat ∧ s[k].toNat ≤ 122
     ·clear hw
      go_wp2
      go_round
      case rel => exact ⟨k + 1, o_, t_, HN'⟩
      case measure => simp [intOf]; omega
     ·have hcs := f_o hw
      clear hw
      by_cases hD : 48 ≤ s[k].toNat ∧ s[k].toNat ≤ 57
      ·have hlt97 : s[k].toNat < 97 := by omega
       clear hcs hA
       go_wp2
       go_round
       case rel => exact ⟨k + 1, o_, t_, HN'⟩
       case measure => simp [intOf]; omega
      ·have h95 : s[k].toNat = 95 := by
        unfold c_K c_T at hcs
        simp at hcs
        omega
       clear hcs hA hD; have hne : ((s[k].toNat : Int) != 95) = false := by simp; omega
       go_wp2
       go_round
       case rel => exact ⟨k + 1, o_, t_, HN'⟩
       case measure => simp [intOf]; omega
    ·have hw' : b_S s[k] = false := by simpa using hw
     have HE := a_0 (f_m (m := 24) hlt hw'); obtain ⟨n1, n2, n3⟩ := h_4 hw'; have hne : ((s[k].toNat : Int) != 95) = true := by simp at n3 ⊢; omega
     unfold c_K at n1; unfold c_T at n2
     simp at n1 n2
     clear hw hw' n3
     by_cases hA : s[k].toNat < 48
     ·have hB : s[k].toNat < 97 := by omega
      clear n1 n2
      go_wp2
      exact n_E
     ·have hC : 57 < s[k].toNat := by omega
      have d57 : decide ((s[k].toNat : Int) ≤ 57) = false := by simp; omega
      by_cases hB : s[k].toNat < 97
      ·clear n1 n2
       go_wp2
       exact n_E
      ·have hD : 122 < s[k].toNat := by omega
       have d122 : decide ((s[k].toNat : Int) ≤ 122) = false := by simp; omega
       clear n1 n2
       go_wp2
       exact n_E
   ·have HE := a_0 (g_N (m := 24) hz o_ HC.out fun j hj => HN.out j hj o_)
    go_wp2
    exact n_E
def h_T (s : ByteArray) (pos : Nat) : Prop := (∀ (h : 0 < s.size), 0 < pos → c_K s[0] = true) ∧ ∀ j (hj : j < s.size), j < pos → b_S s[j] = true
theorem j_d (s : ByteArray) : h_T s 0 := ⟨fun _ h => absurd h (Nat.not_lt_zero _), fun _ _ h => absurd h (Nat.not_lt_zero _)⟩
theorem o_t {c : UInt8} (h : 97 ≤ c.toNat ∧ c.toNat ≤ 122) : c_K c = true := by unfold c_K; simp; exact h
theorem h_a {c : UInt8} (h : ¬ (97 ≤ c.toNat ∧ c.toNat ≤ 122)) : c_K c = false := by
 cases hc : c_K c
 ·rfl
 ·exact absurd (i_Y hc) h
theorem j_G {c : UInt8} (h : c_K c = true ∨ c.toNat = 95 ∨ (48 ≤ c.toNat ∧ c.toNat ≤ 57)) : b_S c = true := by
 unfold b_S
 rcases h with h | h | h
 ·rw [h]; rfl
 ·simp [h]
 ·unfold c_T; simp [h.1, h.2]
theorem h_p {c : UInt8} (h : c_K c = false) (h2 : ¬ c.toNat = 95) (h3 : ¬ (48 ≤ c.toNat ∧ c.toNat ≤ 57)) : b_S c = false := by
 unfold b_S c_T
 rw [h]
 simp
 exact ⟨o_, h2⟩
theorem e_I {s : ByteArray} {pos : Nat} (h : h_T s pos) (hp : pos < s.size) (hw : b_S s[pos] = true) (h0 : pos = 0 → c_K s[pos] = true) : h_T s (pos + 1) := by
 refine ⟨fun h1 _ => ?_, fun j hj h1 => ?_⟩
 ·by_cases e : pos = 0
  ·subst e; exact h0 rfl
  ·exact h.1 h1 o_
 ·by_cases e : j = pos
  ·subst e; exact hw
  ·exact h.2 j hj o_
theorem l_p {s : ByteArray} (h : h_T s s.size) (h1 : ¬ 24 < s.size) : a_p 24 (bs s) = !s.toList.isEmpty := by
 by_cases h0 : s.size = 0
 ·rw [h_m h0]
  have : s.toList = [] := by rw [ByteArray.toList_eq]; exact List.eq_nil_of_length_eq_zero h0
  rw [this]; rfl
 ·rw [g_N o_ o_ (h.1 o_ o_) fun k hk => h.2 k hk hk]
  have : s.toList ≠ [] := by
   rw [ByteArray.toList_eq]; intro e; have : s.data.toList.length = 0 := by rw [e]; rfl
   exact h0 this
  cases hs : s.toList with
  | nil => exact absurd hs this
  | cons => rfl
theorem m_t (w : World) (s : ByteArray) (pos : Nat) : Below w.heap.size w (w.iter s pos) := (b_ _ _).alloc (l_ _) _
theorem b_y (s : ByteArray) (w : World) :
  Calls prog 97 #[.string s] w fun e w' => e = .returned (.bool (a_p 24 (bs s))) ∧ Below w.heap.size w w' := by
 by_cases h1 : 24 < s.size
 ·have HE := a_0 (g_Q h1)
  have hgt : decide (24 < (s.size : Int)) = true := by simp; omega
  go_enter func97, ntmps97
  go_wp2
  go_ret
  exact ⟨a_g (by rw [HE.out]), b_ _ _⟩
 have hgt : decide (24 < (s.size : Int)) = false := by simp; omega
 go_enter func97, ntmps97
 go_wp2
 clear hgt
 go_loopw [3] (fun n w' => ∃ (pos : Nat), w' = w.iter s pos ∧ pos ≤ s.size ∧ Hid (h_T s pos)) (fun _ w' => s.size - w'.iterPos w.heap.size)
 case atStart => exact ⟨0, rfl, o_, j_d s⟩
 case round =>
  obtain ⟨pos, rfl, hk, HN⟩ := hrel
  by_cases hlt : pos < s.size
  ·by_cases ha : (s[pos]).toNat < 128
   ·have hnx := fun ty => run_next_ascii (P := prog) w s pos ty hlt ha
    by_cases hA : 97 ≤ s[pos].toNat ∧ s[pos].toNat ≤ 122
    ·have HN' := a_0 (e_I HN.out hlt (j_G (.inl (o_t hA))) fun _ => o_t hA)
     go_wp2
     exact ⟨⟨pos + 1, rfl, o_, HN'⟩, m_⟩
    ·have hl := h_a hA
     by_cases h0 : pos = 0
     ·subst h0
      have HE := a_0 (g_G (m := 24) hlt hl); clear hl
      by_cases hB : s[0].toNat < 97
      ·clear hA
       go_wp2
       exact q_N
      ·have hC : 122 < s[0].toNat := by omega
       have d122 : decide ((s[0].toNat : Int) ≤ 122) = false := by simp; omega
       clear hA
       go_wp2
       exact q_N
     ·have hp0 : ((pos : Int) == 0) = false := by simp; omega
      by_cases h95 : s[pos].toNat = 95
      ·have HN' := a_0 (e_I HN.out hlt (j_G (.inr (.inl h95))) fun e => absurd e h0)
       have hne : ((s[pos].toNat : Int) != 95) = false := by simp; omega
       have hB : s[pos].toNat < 97 := by omega
       clear hA hl h95
       go_wp2
       exact ⟨⟨pos + 1, rfl, o_, HN'⟩, m_⟩
      ·have hne : ((s[pos].toNat : Int) != 95) = true := by simp; omega
       by_cases hD : 48 ≤ s[pos].toNat ∧ s[pos].toNat ≤ 57
       ·have HN' := a_0 (e_I HN.out hlt (j_G (.inr (.inr hD))) fun e => absurd e h0)
        have hB : s[pos].toNat < 97 := by omega
        clear hA hl h95
        go_wp2
        exact ⟨⟨pos + 1, rfl, o_, HN'⟩, m_⟩
       ·have HE := a_0 (f_m (m := 24) hlt (h_p hl h95 hD))
        clear hl h95
        by_cases hB : s[pos].toNat < 48
        ·have hB2 : s[pos].toNat < 97 := by omega
         clear hA hD
         go_wp2
         exact q_N
        ·have hC : 57 < s[pos].toNat := by omega
         by_cases hB2 : s[pos].toNat < 97
         ·clear hA hD
          go_wp2
          exact q_N
         ·have hC2 : 122 < s[pos].toNat := by omega
          have d122 : decide ((s[pos].toNat : Int) ≤ 122) = false := by simp; omega
          clear hA hD
          go_wp2
          exact q_N
   ·have hnx := fun ty => run_next_any (P := prog) w s pos ty hlt
    obtain ⟨hd1, hd2⟩ := decode_high s pos hlt o_; have hl : c_K s[pos] = false := h_a o_; have HE := a_0 (f_m (m := 24) hlt (h_p hl o_ o_)); have d122 : decide (((Utf8.decode s pos).1 : Int) ≤ 122) = false := by simp; omega
    have hne : (((Utf8.decode s pos).1 : Int) != 95) = true := by simp; omega
    clear hl ha; generalize Utf8.decode s pos = d at *
    by_cases h0 : pos = 0
    ·subst h0
     go_wp2
     exact q_N
    ·have hp0 : ((pos : Int) == 0) = false := by simp; omega
     go_wp2
     exact q_N
  ·obtain rfl : pos = s.size := by omega
   have hnx := fun ty => run_next_end (P := prog) w s s.size ty hlt; have HE := a_0 (l_p HN.out h1)
   go_wp2
   exact q_N
theorem h_t (s : ByteArray) (w : World) : Calls prog 261 #[.string s, .string ⟨#[46]⟩] w fun e w' => e = .returned (.int .i64 (Lib.indexByte (bs s) 46)) ∧ w = w' :=
 (Tryz.stringslite_Index_one s 46 w).mono fun _ _ ⟨h1, h2⟩ => ⟨h1, h2.symm⟩
theorem q_0 (s : ByteArray) (w : World) (hs : s.size ≤ maxLen) (h : ¬ c_w (bs s) < s.size) :
  Calls prog 230 #[.string s, .string ⟨#[46]⟩] w fun e w' => e = .returned (.tuple #[.string s, .string ⟨#[]⟩, .bool false]) ∧ w = w' := by
 unfold maxLen at hs
 obtain ⟨h1, h2⟩ := j_E (bs s)
 rw [a_b] at h2
 have hn : Lib.indexByte (bs s) 46 < 0 := by
  rcases Int.lt_or_le (Lib.indexByte (bs s) 46) 0 with h3 | h3
  ·exact h3
  ·exact absurd (h2 o_).2 h
 have HI := a_0 (fun W => h_t s W)
 clear h1 h2 h
 generalize Lib.indexByte (bs s) 46 = i at *
 have hi : decide (0 ≤ i) = false := by simp; omega
 go_enter func230, ntmps230
 go_wp2_with (go_at_call 261; refine (HI.out _).mono ?_; rintro e w' ⟨rfl, rfl⟩)
 go_ret3
 exact ⟨rfl, rfl⟩
theorem n_j (s : ByteArray) (w : World) (hs : s.size ≤ maxLen) (h : c_w (bs s) < s.size) :
  Calls prog 230 #[.string s, .string ⟨#[46]⟩] w fun e w' => e = .returned (.tuple #[.string (s.extract 0 (c_w (bs s))), .string (s.extract (c_w (bs s) + 1) s.size), .bool true]) ∧ ∃ n, w' = w.drewN n := by
 unfold maxLen at hs
 obtain ⟨h1, h2⟩ := j_E (bs s)
 have hn : ¬ Lib.indexByte (bs s) 46 < 0 := fun h3 => by
  have := h1 h3
  rw [a_b] at this; omega
 have HI := a_0 (fun W => h_t s W)
 rw [(h2 hn).1] at HI
 clear h1 h2 hn
 generalize c_w (bs s) = d at *
 go_enter func230, ntmps230
 go_wp2_with (go_at_call 261; refine (HI.out _).mono ?_; rintro e w' ⟨rfl, rfl⟩)
 have hw : IntKind.i64.wrap ((d : Int) + 1) = (d : Int) + 1 := IntWalk.i64_in _ o_
 have h0 : (0 : Int) ≤ (d : Int) + 1 := by omega
 have h1 : ((d : Int) + 1).toNat = d + 1 := by omega
 go_big_quiet (fail)
 go_wp2
 go_ret3
 exact ⟨rfl, _, rfl⟩
theorem t_0 (s : ByteArray) (w : World) (hs : s.size ≤ maxLen) (h : ¬ c_w (bs s) < s.size) :
  Calls prog 158 #[.string s, .string ⟨#[46]⟩] w fun e w' => e = .returned (.tuple #[.string s, .string ⟨#[]⟩, .bool false]) ∧ w = w' := by
 have HC := a_0 (fun W => q_0 s W hs h)
 clear h
 go_enter func158, ntmps158
 go_wp2_with (go_at_call 230; refine (HC.out _).mono ?_; rintro e w' ⟨rfl, rfl⟩)
 go_ret3
 exact ⟨rfl, rfl⟩
theorem r_5 (s : ByteArray) (w : World) (hs : s.size ≤ maxLen) (h : c_w (bs s) < s.size) :
  Calls prog 158 #[.string s, .string ⟨#[46]⟩] w fun e w' => e = .returned (.tuple #[.string (s.extract 0 (c_w (bs s))), .string (s.extract (c_w (bs s) + 1) s.size), .bool true]) ∧ ∃ n, w' = w.drewN n := by
 have HC := a_0 (fun W => n_j s W hs h)
 clear h
 go_enter func158, ntmps158
 go_wp2_with (go_at_call 230; refine (HC.out _).mono ?_; rintro e w' ⟨rfl, n, rfl⟩)
 go_ret3
 exact ⟨rfl, _, rfl⟩
theorem i_f {s : ByteArray} (h : c_w (bs s) < s.size) : a_K 24 (bs s) = (a_p 24 (bs (s.extract 0 (c_w (bs s)))) && a_p 24 (bs (s.extract (c_w (bs s) + 1) s.size))) := by
 unfold a_K
 rw [if_pos (by rw [a_b]; exact h), d_p, b_B]; rfl
theorem i_Q {s : ByteArray} (h : ¬ c_w (bs s) < s.size) : a_K 24 (bs s) = a_p 24 (bs s) := by
 unfold a_K
 rw [if_neg (by rw [a_b]; exact h)]
theorem b_m (s : ByteArray) (w : World) (hs : s.size ≤ maxLen) :
  Calls prog 88 #[.string s] w fun e w' => e = .returned (.bool (a_K 24 (bs s))) ∧ Below w.heap.size w w' := by
 by_cases h : c_w (bs s) < s.size
 ·have HE := a_0 (i_f h)
  have HC := a_0 (fun W => r_5 s W hs h)
  clear h
  generalize s.extract 0 (c_w (bs s)) = x at *
  generalize s.extract (c_w (bs s) + 1) s.size = y at *
  have HX := a_0 (fun W => b_y x W)
  have HY := a_0 (fun W => b_y y W)
  cases hx : a_p 24 (bs x)
  ·rw [hx] at HX HE
   clear hx
   go_enter func88, ntmps88
   go_wp2_with fail
   refine (HC.out _).mono ?_; rintro e w' ⟨rfl, n, rfl⟩
   go_wp2_with fail
   refine (HX.out _).mono ?_; rintro e w1 ⟨rfl, hb⟩
   go_wp2
   go_ret
   exact ⟨a_g (by rw [HE.out]; rfl), (a_f (b_ _ _) n).trans hb⟩
  ·rw [hx] at HX HE
   clear hx; rw [Bool.true_and] at HE; generalize a_p 24 (bs y) = r at *
   go_enter func88, ntmps88
   go_wp2_with fail
   refine (HC.out _).mono ?_; rintro e w' ⟨rfl, n, rfl⟩
   go_wp2_with fail
   refine (HX.out _).mono ?_; rintro e w1 ⟨rfl, hb⟩
   go_wp2_with fail
   refine (HY.out _).mono ?_; rintro e w2 ⟨rfl, hb2⟩
   go_wp2
   go_ret
   exact ⟨a_g (by rw [HE.out]), (a_f (b_ _ _) n).trans (hb.trans (hb2.mono hb.size))⟩
 ·have HE := a_0 (i_Q h)
  have HC := a_0 (fun W => t_0 s W hs h)
  clear h
  have HX := a_0 (fun W => b_y s W)
  generalize a_p 24 (bs s) = r at *
  cases r
  all_goals
   go_enter func88, ntmps88
   go_wp2_with fail
   refine (HC.out _).mono ?_; rintro e w' ⟨rfl, rfl⟩
   go_wp2_with fail
   refine (HX.out _).mono ?_; rintro e w1 ⟨rfl, hb⟩
   go_wp2
   go_ret
   exact ⟨a_g (by rw [HE.out]), hb⟩
theorem d_b (s : ByteArray) (w : World) (hs : s.size ≤ maxLen) :
  Calls prog 98 #[.string s] w fun e w' => e = .returned (.bool (a_K 24 (bs s))) ∧ w = w' := by
 unfold maxLen at hs
 have hd := r_H (bs s)
 rw [a_b] at hd
 have HL := a_0 (fun k h => l_u (bs s) k h)
 have HS := a_0 (fun h => f_T (bs s) h)
 have HY := a_0 (fun h => i_f (s := s) h)
 have HNo := a_0 (fun h => i_Q (s := s) h)
 generalize hdd : c_w (bs s) = d at *
 clear hdd
 go_enter func98, ntmps98
 go_wp2
 go_loop [3] (fun i => ∃ k : Nat, k ≤ d ∧ i = .int .i64 k) (fun i => d - (intOf i).toNat)
 case atStart => exact ⟨0, o_, rfl⟩
 case round =>
  obtain ⟨k, hk, rfl⟩ := hrel
  by_cases hlt : k < d
  ·obtain ⟨h1, h2⟩ := HL.out k hlt
   have h1' : k < s.size := h1
   have h2' : ((s[k].toNat : Int) == 46) = false := by
    have : s[k].toNat ≠ 46 := h2
    simp; omega
   clear h2
   go_wp2
   go_round
   case rel => exact ⟨k + 1, o_, t_⟩
   case measure => simp [intOf]; omega
  ·obtain rfl : k = d := by omega
   by_cases hz : k < s.size
   ·have h2' : ((s[k].toNat : Int) == 46) = true := by
     have : s[k].toNat = 46 := HS.out hz
     simp; omega
    have HE := a_0 (HY.out hz); have HX := a_0 (fun W => b_W (s.extract 0 k) W); have HYY := a_0 (fun W => b_W (s.extract (k + 1) s.size) W); generalize a_p 24 (bs (s.extract (k + 1) s.size)) = r at *; generalize a_p 24 (bs (s.extract 0 k)) = q at *
    cases q
    ·go_wp2_with fail
     refine (HX.out _).mono ?_; rintro e w' ⟨rfl, rfl⟩
     go_wp2
     go_ret
     exact ⟨a_g (by rw [HE.out]; rfl), rfl⟩
    ·go_wp2_with fail
     refine (HX.out _).mono ?_; rintro e w' ⟨rfl, rfl⟩
     go_wp2_with fail
     refine (HYY.out _).mono ?_; rintro e w' ⟨rfl, rfl⟩
     go_wp2
     go_ret
     exact ⟨a_g (by rw [HE.out]; rfl), rfl⟩
   ·have HE := a_0 (HNo.out hz)
    go_wp2_with fail
    refine (b_W s _).mono ?_; rintro e w' ⟨rfl, rfl⟩
    go_wp2
    exact n_E
end Go.Proofs.YtmbeeefkpgfgmaaGreatDoor
