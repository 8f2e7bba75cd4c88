/- Parts of the proof. -/
import Derived.Test.YtnpjibaolicbmaaGreatDoorPp01
import Derived.Test.YtnpjibaolicbmaaGreatDoorPp02
import Derived.Laws.RangeString
import Derived.Laws.RangeAny
import Derived.IntWalk
import Derived.Deep.RegionWith
import Derived.Deep.LoopGhost
set_option linter.unusedVariables false
set_option linter.unusedSimpArgs false
set_option maxHeartbeats 2000000
namespace Go.Proofs.YtnpjibaolicbmaaGreatDoor
open Go.Proofs.Tryz
open Go.RowKit
def a_i (maxName : Nat) (l : a_3) : Bool := decide (l.length ≤ maxName) && (match l with | [] => false | c :: r => e_N c && r.all d_6)
def c_W (l : a_3) : Nat := (l.takeWhile fun c => c.toNat != 46).length
def b_4 (maxName : Nat) (l : a_3) : Bool :=
 if c_W l < l.length then a_i maxName (l.take (c_W l)) && a_i maxName (l.drop (c_W l + 1)) else a_i maxName l
theorem n_B (l : a_3) : c_W l ≤ l.length := (List.takeWhile_sublist _).length_le
theorem j_0 : ∀ (l : a_3) (k : Nat) (_ : k < c_W l), ∃ h' : k < l.length, (l[k]'h').toNat ≠ 46
 | [], k, h => by simp [c_W] at h
 | c :: l, k, h => by
  unfold c_W at h
  rw [List.takeWhile_cons] at h
  by_cases hc : (c.toNat != 46) = true
  ·rw [if_pos hc] at h
   match k with
   | 0 => exact ⟨s_, by simpa using hc⟩
   | k + 1 =>
    obtain ⟨h1, h2⟩ := j_0 l k (by simpa [c_W] using h); exact ⟨by simpa using h1, by simpa using h2⟩
  ·rw [if_neg hc] at h; simp at h
theorem f_5 : ∀ (l : a_3) (h : c_W l < l.length), (l[c_W l]'h).toNat = 46
 | [], h => by simp [c_W] at h
 | c :: l, h => by
  by_cases hc : (c.toNat != 46) = true
  ·have e : c_W (c :: l) = c_W l + 1 := by unfold c_W; rw [List.takeWhile_cons, if_pos hc]; simp
   have h' : c_W l < l.length := by rw [e] at h; simpa using h
   have := f_5 l h'
   simpa [e] using this
  ·have e : c_W (c :: l) = 0 := by unfold c_W; rw [List.takeWhile_cons, if_neg hc]; simp
   have hc' : c.toNat = 46 := by simpa using hc
   simpa [e] using hc'
theorem g_8 : ∀ l : a_3, (Lib.indexByte l 46 < 0 → c_W l = l.length) ∧ (¬ Lib.indexByte l 46 < 0 → Lib.indexByte l 46 = c_W l ∧ c_W l < l.length)
 | [] => by simp [Lib.indexByte, c_W]
 | c :: l => by
  obtain ⟨i1, i2⟩ := g_8 l
  have hge := Lib.indexByte_ge l 46
  by_cases hc : c.toNat = 46
  ·have e : c = 46 := by apply UInt8.toNat_inj.1; rw [hc]; rfl
   subst e
   simp [Lib.indexByte, c_W]
  ·have hne : (c == 46) = false := by rw [beq_eq_false_iff_ne]; intro e; subst e; exact hc rfl
   have hn : (c.toNat != 46) = true := by simp [hc]
   have el : c_W (c :: l) = c_W l + 1 := by unfold c_W; rw [List.takeWhile_cons, if_pos hn]; simp
   rw [el]; unfold Lib.indexByte; rw [hne]; simp only [Bool.false_eq_true, if_false]
   by_cases hm : Lib.indexByte l 46 = -1
   ·rw [hm]; simp; rw [i1 o_]
   ·have hm' : (Lib.indexByte l 46 == -1) = false := by simp [hm]
    rw [hm']; simp; have := i2 o_
    omega
def s_O (x : a_3) : Bool := j_G.contains x
def r_f (k : Int) (x : a_3) (n : Int) : Bool :=
 if k = 0 then x.isEmpty && n == 0
 else if k = 1 then b_4 24 x && n == 0
 else if k = 2 then x.isEmpty && (decide (0 ≤ n) && decide (n ≤ 1073741824))
 else if k = 3 then decide (x.length ≤ 64) && n == 0
 else if k = 4 then x.isEmpty && (decide (0 ≤ n) && decide (n ≤ 575999999))
 else if k = 5 then s_O x && n == 0
 else false
def Tok.ok (t : Tok) : Bool := r_f t.kind t.text t.num
theorem f_H {m : Nat} {s : ByteArray} (h : m < s.size) : a_i m (bs s) = false := by
 unfold a_i
 rw [decide_eq_false (by rw [b_U]; omega)]; rfl
theorem g_I {m : Nat} {s : ByteArray} (h : s.size = 0) : a_i m (bs s) = false := by
 have : bs s = [] := List.eq_nil_of_length_eq_zero h
 rw [this]; simp [a_i]
theorem f_E {m : Nat} {s : ByteArray} (h : 0 < s.size) (hc : e_N s[0] = false) : a_i m (bs s) = false := by
 unfold a_i
 have e : (bs s)[0]'h = s[0] := rfl
 cases hb : bs s with
 | nil => simp
 | cons c r =>
  have : c = s[0] := by rw [← e]; simp [hb]
  simp [this, hc]
theorem e_v {m : Nat} {s : ByteArray} {k : Nat} (h : k < s.size) (hc : d_6 s[k] = false) : a_i m (bs s) = false := by
 unfold a_i
 have e : (bs s)[k]'h = s[k] := rfl
 cases hb : bs s with
 | nil => simp
 | cons c r =>
  have e2 : (c :: r)[k]'(by rw [← hb]; exact h) = s[k] := by rw [← e]; simp [hb]
  have : e_N c = false ∨ r.all d_6 = false := by
   cases k with
   | zero =>
    left
    have : c = s[0] := e2; rw [this]; exact (j_L hc).1
   | succ k =>
    right
    rw [List.all_eq_false]; exact ⟨s[k+1], by rw [← e2]; simp, by simp [hc]⟩
  rcases this with h | h <;> simp [h]
theorem f_C {m : Nat} {s : ByteArray} (h0 : 0 < s.size) (h1 : s.size ≤ m) (hc : e_N s[0] = true) (ha : ∀ k (hk : k < s.size), d_6 s[k] = true) : a_i m (bs s) = true := by
 unfold a_i
 rw [decide_eq_true (by rw [b_U]; omega)]
 have e : (bs s)[0]'h0 = s[0] := rfl
 cases hb : bs s with
 | nil =>
   have : (bs s).length = 0 := by rw [hb]; rfl
   rw [b_U] at this; omega
 | cons c r =>
  have e1 : c = s[0] := by rw [← e]; simp [hb]
  have : r.all d_6 = true := by
   rw [List.all_eq_true]; intro x hx; obtain ⟨i, hi, rfl⟩ := List.mem_iff_getElem.1 hx; have hk : i + 1 < s.size := by rw [← b_U, hb]; simp; omega
   have e3 : (bs s)[i+1]'hk = s[i+1] := rfl; have : r[i] = s[i+1] := by rw [← e3]; simp [hb]
   rw [this]; exact ha _ hk
  simp [e1, hc, this]
theorem e_6 {c : UInt8} (h : e_N c = true) : 97 ≤ c.toNat ∧ c.toNat ≤ 122 := by
 unfold e_N at h; simpa using h
theorem b_5 (s : ByteArray) (w : World) :
  Calls prog 89 #[.string s] w fun e w' => e = .returned (.bool (a_i 24 (bs s))) ∧ w = w' := by
 by_cases h0 : s.size = 0
 ·have HE := a_2 (g_I (m := 24) h0)
  have hlt : decide ((s.size : Int) < 1) = true := by simp; omega
  go_enter func89, ntmps89
  go_wp2
  exact k_w
 by_cases h1 : 24 < s.size
 ·have HE := a_2 (f_H h1)
  have hlt : decide ((s.size : Int) < 1) = false := by simp; omega
  have hgt : decide (24 < (s.size : Int)) = true := by simp; omega
  go_enter func89, ntmps89
  go_wp2
  exact k_w
 have hz : 0 < s.size := by omega
 have hlt : decide ((s.size : Int) < 1) = false := by simp; omega
 have hgt : decide (24 < (s.size : Int)) = false := by simp; omega
 cases hc : e_N s[0] with
 | false =>
  have HE := a_2 (f_E (m := 24) hz hc)
  unfold e_N at hc
  by_cases hA : s[0].toNat < 97
  ·have g1 : decide ((s[0].toNat : Int) < 97) = true := by simp; omega
   clear hc
   go_enter func89, ntmps89
   go_wp2
   exact k_w
  ·have g1 : decide ((s[0].toNat : Int) < 97) = false := by simp; omega
   have g3 : 122 < s[0].toNat := by simp at hc; omega
   have g2 : decide (122 < (s[0].toNat : Int)) = true := by simp; omega
   clear hc
   go_enter func89, ntmps89
   go_wp2
   exact k_w
 | true =>
  have HC := a_2 hc
  have hc' := e_6 hc
  have g1 : decide ((s[0].toNat : Int) < 97) = false := by simp; omega
  have g2 : decide (122 < (s[0].toNat : Int)) = false := by simp; omega
  clear hc
  go_enter func89, ntmps89
  go_wp2
  clear g1 g2 hc' hlt hgt
  go_loop [3] (fun i => ∃ k : Nat, k ≤ s.size ∧ i = .int .i64 k ∧ Hid (∀ j (hj : j < s.size), j < k → d_6 s[j] = true)) (fun i => s.size - (intOf i).toNat)
  case atStart => exact ⟨0, o_, rfl, fun j _ h => absurd h (Nat.not_lt_zero _)⟩
  case round =>
   obtain ⟨k, hk, rfl, HN⟩ := hrel
   by_cases hlt : k < s.size
   ·by_cases hw : d_6 s[k] = true
    ·have HN' := a_2 (show ∀ j (hj : j < s.size), j < k + 1 → d_6 s[j] = true from fun j hj h => by
      by_cases e : j = k
      ·subst e; exact hw
      ·exact HN.out j hj o_)
     by_cases hA : 97 ≤ s[k].toNat ∧ s[k].toNat ≤ 122
     ·clear hw
      go_wp2
      go_round
      case rel => exact ⟨k + 1, o_, t_, HN'⟩
      case measure => simp [intOf]; omega
     ·have hcs := g_x hw
      clear hw
      by_cases hD : 48 ≤ s[k].toNat ∧ s[k].toNat ≤ 57
      ·have hlt97 : s[k].toNat < 97 := by omega
       clear hcs hA
       go_wp2
       go_round
       case rel => exact ⟨k + 1, o_, t_, HN'⟩
       case measure => simp [intOf]; omega
      ·have h95 : s[k].toNat = 95 := by
        unfold e_N j_O at hcs
        simp at hcs
        omega
       clear hcs hA hD; have hne : ((s[k].toNat : Int) != 95) = false := by simp; omega
       go_wp2
       go_round
       case rel => exact ⟨k + 1, o_, t_, HN'⟩
       case measure => simp [intOf]; omega
    ·have hw' : d_6 s[k] = false := by simpa using hw
     have HE := a_2 (e_v (m := 24) hlt hw'); obtain ⟨n1, n2, n3⟩ := j_L hw'; have hne : ((s[k].toNat : Int) != 95) = true := by simp at n3 ⊢; omega
     unfold e_N at n1; unfold j_O at n2
     simp at n1 n2
     clear hw hw' n3
     by_cases hA : s[k].toNat < 48
     ·have hB : s[k].toNat < 97 := by omega
      clear n1 n2
      go_wp2
      exact k_w
     ·have hC : 57 < s[k].toNat := by omega
      have d57 : decide ((s[k].toNat : Int) ≤ 57) = false := by simp; omega
      by_cases hB : s[k].toNat < 97
      ·clear n1 n2
       go_wp2
       exact k_w
      ·have hD : 122 < s[k].toNat := by omega
       have d122 : decide ((s[k].toNat : Int) ≤ 122) = false := by simp; omega
       clear n1 n2
       go_wp2
       exact k_w
   ·have HE := a_2 (f_C (m := 24) hz o_ HC.out fun j hj => HN.out j hj o_)
    go_wp2
    exact k_w
def g_n (s : ByteArray) (pos : Nat) : Prop := (∀ (h : 0 < s.size), 0 < pos → e_N s[0] = true) ∧ ∀ j (hj : j < s.size), j < pos → d_6 s[j] = true
theorem i_0 (s : ByteArray) : g_n s 0 := ⟨fun _ h => absurd h (Nat.not_lt_zero _), fun _ _ h => absurd h (Nat.not_lt_zero _)⟩
theorem k_v {c : UInt8} (h : 97 ≤ c.toNat ∧ c.toNat ≤ 122) : e_N c = true := by unfold e_N; simp; exact h
theorem j_E {c : UInt8} (h : ¬ (97 ≤ c.toNat ∧ c.toNat ≤ 122)) : e_N c = false := by
 cases hc : e_N c
 ·rfl
 ·exact absurd (e_6 hc) h
theorem h_M {c : UInt8} (h : e_N c = true ∨ c.toNat = 95 ∨ (48 ≤ c.toNat ∧ c.toNat ≤ 57)) : d_6 c = true := by
 unfold d_6
 rcases h with h | h | h
 ·rw [h]; rfl
 ·simp [h]
 ·unfold j_O; simp [h.1, h.2]
theorem i_r {c : UInt8} (h : e_N c = false) (h2 : ¬ c.toNat = 95) (h3 : ¬ (48 ≤ c.toNat ∧ c.toNat ≤ 57)) : d_6 c = false := by
 unfold d_6 j_O
 rw [h]
 simp
 exact ⟨o_, h2⟩
theorem d_Y {s : ByteArray} {pos : Nat} (h : g_n s pos) (hp : pos < s.size) (hw : d_6 s[pos] = true) (h0 : pos = 0 → e_N s[pos] = true) : g_n s (pos + 1) := by
 refine ⟨fun h1 _ => ?_, fun j hj h1 => ?_⟩
 ·by_cases e : pos = 0
  ·subst e; exact h0 rfl
  ·exact h.1 h1 o_
 ·by_cases e : j = pos
  ·subst e; exact hw
  ·exact h.2 j hj o_
theorem j_7 {s : ByteArray} (h : g_n s s.size) (h1 : ¬ 24 < s.size) : a_i 24 (bs s) = !s.toList.isEmpty := by
 by_cases h0 : s.size = 0
 ·rw [g_I h0]
  have : s.toList = [] := by rw [ByteArray.toList_eq]; exact List.eq_nil_of_length_eq_zero h0
  rw [this]; rfl
 ·rw [f_C o_ o_ (h.1 o_ o_) fun k hk => h.2 k hk hk]
  have : s.toList ≠ [] := by
   rw [ByteArray.toList_eq]; intro e; have : s.data.toList.length = 0 := by rw [e]; rfl
   exact h0 this
  cases hs : s.toList with
  | nil => exact absurd hs this
  | cons => rfl
theorem k_f (w : World) (s : ByteArray) (pos : Nat) : Below w.heap.size w (w.iter s pos) := (b_ _ _).alloc (l_ _) _
theorem a_Z (s : ByteArray) (w : World) :
  Calls prog 81 #[.string s] w fun e w' => e = .returned (.bool (a_i 24 (bs s))) ∧ Below w.heap.size w w' := by
 by_cases h1 : 24 < s.size
 ·have HE := a_2 (f_H h1)
  have hgt : decide (24 < (s.size : Int)) = true := by simp; omega
  go_enter func81, ntmps81
  go_wp2
  go_ret
  exact ⟨a_a (by rw [HE.out]), b_ _ _⟩
 have hgt : decide (24 < (s.size : Int)) = false := by simp; omega
 go_enter func81, ntmps81
 go_wp2
 clear hgt
 go_loopw [3] (fun n w' => ∃ (pos : Nat), w' = w.iter s pos ∧ pos ≤ s.size ∧ Hid (g_n s pos)) (fun _ w' => s.size - w'.iterPos w.heap.size)
 case atStart => exact ⟨0, rfl, o_, i_0 s⟩
 case round =>
  obtain ⟨pos, rfl, hk, HN⟩ := hrel
  by_cases hlt : pos < s.size
  ·by_cases ha : (s[pos]).toNat < 128
   ·have hnx := fun ty => run_next_ascii (P := prog) w s pos ty hlt ha
    by_cases hA : 97 ≤ s[pos].toNat ∧ s[pos].toNat ≤ 122
    ·have HN' := a_2 (d_Y HN.out hlt (h_M (.inl (k_v hA))) fun _ => k_v hA)
     go_wp2
     exact ⟨⟨pos + 1, rfl, o_, HN'⟩, m_⟩
    ·have hl := j_E hA
     by_cases h0 : pos = 0
     ·subst h0
      have HE := a_2 (f_E (m := 24) hlt hl); clear hl
      by_cases hB : s[0].toNat < 97
      ·clear hA
       go_wp2
       exact n_3
      ·have hC : 122 < s[0].toNat := by omega
       have d122 : decide ((s[0].toNat : Int) ≤ 122) = false := by simp; omega
       clear hA
       go_wp2
       exact n_3
     ·have hp0 : ((pos : Int) == 0) = false := by simp; omega
      by_cases h95 : s[pos].toNat = 95
      ·have HN' := a_2 (d_Y HN.out hlt (h_M (.inr (.inl h95))) fun e => absurd e h0)
       have hne : ((s[pos].toNat : Int) != 95) = false := by simp; omega
       have hB : s[pos].toNat < 97 := by omega
       clear hA hl h95
       go_wp2
       exact ⟨⟨pos + 1, rfl, o_, HN'⟩, m_⟩
      ·have hne : ((s[pos].toNat : Int) != 95) = true := by simp; omega
       by_cases hD : 48 ≤ s[pos].toNat ∧ s[pos].toNat ≤ 57
       ·have HN' := a_2 (d_Y HN.out hlt (h_M (.inr (.inr hD))) fun e => absurd e h0)
        have hB : s[pos].toNat < 97 := by omega
        clear hA hl h95
        go_wp2
        exact ⟨⟨pos + 1, rfl, o_, HN'⟩, m_⟩
       ·have HE := a_2 (e_v (m := 24) hlt (i_r hl h95 hD))
        clear hl h95
        by_cases hB : s[pos].toNat < 48
        ·have hB2 : s[pos].toNat < 97 := by omega
         clear hA hD
         go_wp2
         exact n_3
        ·have hC : 57 < s[pos].toNat := by omega
         by_cases hB2 : s[pos].toNat < 97
         ·clear hA hD
          go_wp2
          exact n_3
         ·have hC2 : 122 < s[pos].toNat := by omega
          have d122 : decide ((s[pos].toNat : Int) ≤ 122) = false := by simp; omega
          clear hA hD
          go_wp2
          exact n_3
   ·have hnx := fun ty => run_next_any (P := prog) w s pos ty hlt
    obtain ⟨hd1, hd2⟩ := decode_high s pos hlt o_; have hl : e_N s[pos] = false := j_E o_; have HE := a_2 (e_v (m := 24) hlt (i_r hl o_ o_)); have d122 : decide (((Utf8.decode s pos).1 : Int) ≤ 122) = false := by simp; omega
    have hne : (((Utf8.decode s pos).1 : Int) != 95) = true := by simp; omega
    clear hl ha; generalize Utf8.decode s pos = d at *
    by_cases h0 : pos = 0
    ·subst h0
     go_wp2
     exact n_3
    ·have hp0 : ((pos : Int) == 0) = false := by simp; omega
     go_wp2
     exact n_3
  ·obtain rfl : pos = s.size := by omega
   have hnx := fun ty => run_next_end (P := prog) w s s.size ty hlt; have HE := a_2 (j_7 HN.out h1)
   go_wp2
   exact n_3
theorem g_P (s : ByteArray) (w : World) : Calls prog 204 #[.string s, .string ⟨#[46]⟩] w fun e w' => e = .returned (.int .i64 (Lib.indexByte (bs s) 46)) ∧ w = w' :=
 (Tryz.stringslite_Index_one s 46 w).mono fun _ _ ⟨h1, h2⟩ => ⟨h1, h2.symm⟩
theorem m_i (s : ByteArray) (w : World) (hs : s.size ≤ maxLen) (h : ¬ c_W (bs s) < s.size) :
  Calls prog 229 #[.string s, .string ⟨#[46]⟩] w fun e w' => e = .returned (.tuple #[.string s, .string ⟨#[]⟩, .bool false]) ∧ w = w' := by
 unfold maxLen at hs
 obtain ⟨h1, h2⟩ := g_8 (bs s)
 rw [b_U] at h2
 have hn : Lib.indexByte (bs s) 46 < 0 := by
  rcases Int.lt_or_le (Lib.indexByte (bs s) 46) 0 with h3 | h3
  ·exact h3
  ·exact absurd (h2 o_).2 h
 have HI := a_2 (fun W => g_P s W)
 clear h1 h2 h
 generalize Lib.indexByte (bs s) 46 = i at *
 have hi : decide (0 ≤ i) = false := by simp; omega
 go_enter func229, ntmps229
 go_wp2_with (go_at_call 204; refine (HI.out _).mono ?_; rintro e w' ⟨rfl, rfl⟩)
 go_ret3
 exact ⟨rfl, rfl⟩
theorem k_S (s : ByteArray) (w : World) (hs : s.size ≤ maxLen) (h : c_W (bs s) < s.size) :
  Calls prog 229 #[.string s, .string ⟨#[46]⟩] w fun e w' => e = .returned (.tuple #[.string (s.extract 0 (c_W (bs s))), .string (s.extract (c_W (bs s) + 1) s.size), .bool true]) ∧ ∃ n, w' = w.drewN n := by
 unfold maxLen at hs
 obtain ⟨h1, h2⟩ := g_8 (bs s)
 have hn : ¬ Lib.indexByte (bs s) 46 < 0 := fun h3 => by
  have := h1 h3
  rw [b_U] at this; omega
 have HI := a_2 (fun W => g_P s W)
 rw [(h2 hn).1] at HI
 clear h1 h2 hn
 generalize c_W (bs s) = d at *
 go_enter func229, ntmps229
 go_wp2_with (go_at_call 204; refine (HI.out _).mono ?_; rintro e w' ⟨rfl, rfl⟩)
 have hw : IntKind.i64.wrap ((d : Int) + 1) = (d : Int) + 1 := IntWalk.i64_in _ o_
 have h0 : (0 : Int) ≤ (d : Int) + 1 := by omega
 have h1 : ((d : Int) + 1).toNat = d + 1 := by omega
 go_big_quiet (fail)
 go_wp2
 go_ret3
 exact ⟨rfl, _, rfl⟩
theorem o_S (s : ByteArray) (w : World) (hs : s.size ≤ maxLen) (h : ¬ c_W (bs s) < s.size) :
  Calls prog 161 #[.string s, .string ⟨#[46]⟩] w fun e w' => e = .returned (.tuple #[.string s, .string ⟨#[]⟩, .bool false]) ∧ w = w' := by
 have HC := a_2 (fun W => m_i s W hs h)
 clear h
 go_enter func161, ntmps161
 go_wp2_with (go_at_call 229; refine (HC.out _).mono ?_; rintro e w' ⟨rfl, rfl⟩)
 go_ret3
 exact ⟨rfl, rfl⟩
theorem n_u (s : ByteArray) (w : World) (hs : s.size ≤ maxLen) (h : c_W (bs s) < s.size) :
  Calls prog 161 #[.string s, .string ⟨#[46]⟩] w fun e w' => e = .returned (.tuple #[.string (s.extract 0 (c_W (bs s))), .string (s.extract (c_W (bs s) + 1) s.size), .bool true]) ∧ ∃ n, w' = w.drewN n := by
 have HC := a_2 (fun W => k_S s W hs h)
 clear h
 go_enter func161, ntmps161
 go_wp2_with (go_at_call 229; refine (HC.out _).mono ?_; rintro e w' ⟨rfl, n, rfl⟩)
 go_ret3
 exact ⟨rfl, _, rfl⟩
theorem g_D {s : ByteArray} (h : c_W (bs s) < s.size) : b_4 24 (bs s) = (a_i 24 (bs (s.extract 0 (c_W (bs s)))) && a_i 24 (bs (s.extract (c_W (bs s) + 1) s.size))) := by
 unfold b_4
 rw [if_pos (by rw [b_U]; exact h), n_C, h_k]; rfl
theorem h_g {s : ByteArray} (h : ¬ c_W (bs s) < s.size) : b_4 24 (bs s) = a_i 24 (bs s) := by
 unfold b_4
 rw [if_neg (by rw [b_U]; exact h)]
theorem b_c (s : ByteArray) (w : World) (hs : s.size ≤ maxLen) :
  Calls prog 113 #[.string s] w fun e w' => e = .returned (.bool (b_4 24 (bs s))) ∧ Below w.heap.size w w' := by
 by_cases h : c_W (bs s) < s.size
 ·have HE := a_2 (g_D h)
  have HC := a_2 (fun W => n_u s W hs h)
  clear h
  generalize s.extract 0 (c_W (bs s)) = x at *
  generalize s.extract (c_W (bs s) + 1) s.size = y at *
  have HX := a_2 (fun W => a_Z x W)
  have HY := a_2 (fun W => a_Z y W)
  cases hx : a_i 24 (bs x)
  ·rw [hx] at HX HE
   clear hx
   go_enter func113, ntmps113
   go_wp2_with fail
   refine (HC.out _).mono ?_; rintro e w' ⟨rfl, n, rfl⟩
   go_wp2_with fail
   refine (HX.out _).mono ?_; rintro e w1 ⟨rfl, hb⟩
   go_wp2
   go_ret
   exact ⟨a_a (by rw [HE.out]; rfl), (a_4 (b_ _ _) n).trans hb⟩
  ·rw [hx] at HX HE
   clear hx; rw [Bool.true_and] at HE; generalize a_i 24 (bs y) = r at *
   go_enter func113, ntmps113
   go_wp2_with fail
   refine (HC.out _).mono ?_; rintro e w' ⟨rfl, n, rfl⟩
   go_wp2_with fail
   refine (HX.out _).mono ?_; rintro e w1 ⟨rfl, hb⟩
   go_wp2_with fail
   refine (HY.out _).mono ?_; rintro e w2 ⟨rfl, hb2⟩
   go_wp2
   go_ret
   exact ⟨a_a (by rw [HE.out]), (a_4 (b_ _ _) n).trans (hb.trans (hb2.mono hb.size))⟩
 ·have HE := a_2 (h_g h)
  have HC := a_2 (fun W => o_S s W hs h)
  clear h
  have HX := a_2 (fun W => a_Z s W)
  generalize a_i 24 (bs s) = r at *
  cases r
  all_goals
   go_enter func113, ntmps113
   go_wp2_with fail
   refine (HC.out _).mono ?_; rintro e w' ⟨rfl, rfl⟩
   go_wp2_with fail
   refine (HX.out _).mono ?_; rintro e w1 ⟨rfl, hb⟩
   go_wp2
   go_ret
   exact ⟨a_a (by rw [HE.out]), hb⟩
theorem c_w (s : ByteArray) (w : World) (hs : s.size ≤ maxLen) :
  Calls prog 129 #[.string s] w fun e w' => e = .returned (.bool (b_4 24 (bs s))) ∧ w = w' := by
 unfold maxLen at hs
 have hd := n_B (bs s)
 rw [b_U] at hd
 have HL := a_2 (fun k h => j_0 (bs s) k h)
 have HS := a_2 (fun h => f_5 (bs s) h)
 have HY := a_2 (fun h => g_D (s := s) h)
 have HNo := a_2 (fun h => h_g (s := s) h)
 generalize hdd : c_W (bs s) = d at *
 clear hdd
 go_enter func129, ntmps129
 go_wp2
 go_loop [3] (fun i => ∃ k : Nat, k ≤ d ∧ i = .int .i64 k) (fun i => d - (intOf i).toNat)
 case atStart => exact ⟨0, o_, rfl⟩
 case round =>
  obtain ⟨k, hk, rfl⟩ := hrel
  by_cases hlt : k < d
  ·obtain ⟨h1, h2⟩ := HL.out k hlt
   have h1' : k < s.size := h1
   have h2' : ((s[k].toNat : Int) == 46) = false := by
    have : s[k].toNat ≠ 46 := h2
    simp; omega
   clear h2
   go_wp2
   go_round
   case rel => exact ⟨k + 1, o_, t_⟩
   case measure => simp [intOf]; omega
  ·obtain rfl : k = d := by omega
   by_cases hz : k < s.size
   ·have h2' : ((s[k].toNat : Int) == 46) = true := by
     have : s[k].toNat = 46 := HS.out hz
     simp; omega
    have HE := a_2 (HY.out hz); have HX := a_2 (fun W => b_5 (s.extract 0 k) W); have HYY := a_2 (fun W => b_5 (s.extract (k + 1) s.size) W); generalize a_i 24 (bs (s.extract (k + 1) s.size)) = r at *; generalize a_i 24 (bs (s.extract 0 k)) = q at *
    cases q
    ·go_wp2_with fail
     refine (HX.out _).mono ?_; rintro e w' ⟨rfl, rfl⟩
     go_wp2
     go_ret
     exact ⟨a_a (by rw [HE.out]; rfl), rfl⟩
    ·go_wp2_with fail
     refine (HX.out _).mono ?_; rintro e w' ⟨rfl, rfl⟩
     go_wp2_with fail
     refine (HYY.out _).mono ?_; rintro e w' ⟨rfl, rfl⟩
     go_wp2
     go_ret
     exact ⟨a_a (by rw [HE.out]; rfl), rfl⟩
   ·have HE := a_2 (HNo.out hz)
    go_wp2_with fail
    refine (b_5 s _).mono ?_; rintro e w' ⟨rfl, rfl⟩
    go_wp2
    exact k_w
theorem a_g {w w' : World} {base e size n : Nat} {v : Value} {xs : List Value} (h : w.ownsRow base e size v n xs) (hb : Below w.heap.size w w') : w'.ownsRow base e size v n xs :=
 h.kept (row := none) ⟨hb.os, hb.tape, hb.output, hb.size, fun i hi _ => hb.block i hi⟩ (by
  rcases h.2 with ⟨rfl, _⟩ | ⟨g, cap, cur, rfl, _⟩
  ·left; rfl
  ·right; simp [Value.ownBlock])
def p_e (s : ByteArray) (i j : Nat) : Prop := i ≤ j ∧ j ≤ s.size ∧ ∀ acc, j_I (bs s) i acc → j_I (bs s) j acc
theorem p_e.refl {s : ByteArray} {i : Nat} (h : i ≤ s.size) : p_e s i i := ⟨l_ _, h, fun _ h => h⟩
def l_3 (w : World) (A : Option Addr) (ts : List Tok) : Prop :=
 ts = [] ∨ ∃ g off, A = some ⟨g, off, none⟩ ∧ g < w.heap.size ∧ ∀ i (h : i < ts.length),
  w.cell? ⟨g, off + i * 4, none⟩ = some (.int .i64 ts[i].kind) ∧ w.cell? ⟨g, off + i * 4 + 1, none⟩ = some (str ts[i].text) ∧
  w.cell? ⟨g, off + i * 4 + 2, none⟩ = some (.int .i64 ts[i].num) ∧ w.cell? ⟨g, off + i * 4 + 3, none⟩ = some (.int .i64 ts[i].off)
theorem l_3.below {w w' : World} {A : Option Addr} {ts : List Tok} (h : l_3 w A ts) (hb : Below w.heap.size w w') : l_3 w' A ts := by
 rcases h with h | ⟨g, off, hA, hg, hc⟩
 ·exact .inl h
 ·refine .inr ⟨g, off, hA, Nat.lt_of_lt_of_le hg hb.size, fun i hi => ?_⟩
  obtain ⟨h1, h2, h3, h4⟩ := hc i hi
  exact ⟨(hb.cell (p := ⟨g, _, none⟩) hg).trans h1, (hb.cell (p := ⟨g, _, none⟩) hg).trans h2, (hb.cell (p := ⟨g, _, none⟩) hg).trans h3, (hb.cell (p := ⟨g, _, none⟩) hg).trans h4⟩
def m_X : List ByteArray := a_w.map fun l => ⟨l.toArray⟩
def c_N (ls : List a_3) (x : a_3) : Bool := ls.contains x
def c_T (l : a_3) : Bool := c_N a_w l
theorem e_G (ls : List a_3) (x : ByteArray) : Lib.containsS (ls.map fun l => (⟨l.toArray⟩ : ByteArray)) x = c_N ls (bs x) := by
 unfold c_N
 rw [Bool.eq_iff_iff, Lib.containsS_iff, List.contains_iff_mem, List.mem_map]
 constructor
 ·rintro ⟨l, h, rfl⟩; exact h
 ·intro h; exact ⟨bs x, h, c_y x⟩
theorem c_s (s : ByteArray) (w : World) (hW : a_v w 1 a_w) : Calls prog 82 #[.string s] w fun e w' => e = .returned (.bool (c_T (bs s))) ∧ w = w' := by
 obtain ⟨hg, b, off, cp, hb, hv, hcells⟩ := hW
 have hl8 : a_w.length = 8 := rfl
 rw [hl8] at hv hcells
 have HC := a_2 hcells
 clear hcells hl8
 go_enter func82, ntmps82
 go_wp2_with fail
 refine (Tryz.slices_Contains_string b off 8 cp m_X s _ d_ d_ (fun j hj => ?_)).mono ?_
 ·have hj' : j < 8 := hj
  rw [HC.out j hj']
  match j, hj' with
  | 0, _ => rfl
  | 1, _ => rfl
  | 2, _ => rfl
  | 3, _ => rfl
  | 4, _ => rfl
  | 5, _ => rfl
  | 6, _ => rfl
  | 7, _ => rfl
 rintro e w' ⟨rfl, rfl⟩
 have HE := a_2 (show Lib.containsS (m_X.take 8) s = c_T (bs s) from e_G a_w s)
 go_wp2
 go_ret
 exact ⟨a_a (by rw [← HE.out]), rfl⟩
def b_b (w : World) (A : Option Addr) (ls : List a_3) : Prop :=
 ls = [] ∨ ∃ g off, A = some ⟨g, off, none⟩ ∧ g < w.heap.size ∧ ∀ i (h : i < ls.length), w.cell? ⟨g, off + i, none⟩ = some (str ls[i])
theorem b_b.below {w w' : World} {A : Option Addr} {ls : List a_3} (h : b_b w A ls) (hb : Below w.heap.size w w') : b_b w' A ls := by
 rcases h with h | ⟨g, off, hA, hg, hc⟩
 ·exact .inl h
 ·exact .inr ⟨g, off, hA, Nat.lt_of_lt_of_le hg hb.size, fun i hi => (hb.cell (p := ⟨g, _, none⟩) hg).trans (hc i hi)⟩
theorem n_F {ls : List a_3} {x : a_3} {k : Nat} (hk : k < ls.length) (h : ls[k] = x) : c_N ls x = true := by
 unfold c_N
 rw [List.contains_iff_mem]; exact h ▸ List.getElem_mem hk
theorem m_9 {ls : List a_3} {x : a_3} (h : ∀ i (hi : i < ls.length), ls[i] ≠ x) : c_N ls x = false := by
 unfold c_N
 cases hc : ls.contains x
 ·rfl
 ·rw [List.contains_iff_mem, List.mem_iff_getElem] at hc
  obtain ⟨i, hi, e⟩ := hc
  exact absurd e (h i hi)
theorem d_4 (A : Option Addr) (ls : List a_3) (c : Nat) (s : ByteArray) (w : World) (ha : b_b w A ls) (hl : ls.length ≤ 8796093022208) :
  Calls prog 34 #[.slice A ls.length c, .string s] w fun e w' => e = .returned (.bool (c_N ls (bs s))) ∧ w = w' := by
 have HA := a_2 ha
 clear ha
 go_enter func34, ntmps34
 go_wp2
 go_loop [5] (fun i => ∃ k : Nat, k ≤ ls.length ∧ i = .int .i64 k ∧ Hid (∀ i (hi : i < ls.length), i < k → ls[i] ≠ bs s)) (fun i => ls.length - (intOf i).toNat)
 case atStart => exact ⟨0, o_, rfl, fun i _ h => absurd h (Nat.not_lt_zero _)⟩
 case round =>
  obtain ⟨k, hk, rfl, HN⟩ := hrel
  by_cases hlt : k < ls.length
  ·rcases HA.out with h | ⟨g, off, rfl, hg, hc⟩
   ·exact absurd hlt (by rw [h]; simp)
   have hx := hc k hlt; clear hc
   by_cases he : ls[k] = bs s
   ·have HE := a_2 (n_F hlt he)
    have hb : (ls[k] == s.toList) = true := by rw [ByteArray.toList_eq]; simp [he, bs]
    clear he; generalize ls[k] = x at *
    go_wp2
    exact k_w
   ·have HN' := a_2 (show ∀ i (hi : i < ls.length), i < k + 1 → ls[i] ≠ bs s from fun i hi h => by
     by_cases e : i = k
     ·subst e; exact he
     ·exact HN.out i hi o_)
    have hb : (ls[k] == s.toList) = false := by rw [ByteArray.toList_eq]; simpa [bs] using he
    clear he; generalize ls[k] = x at *
    go_wp2
    go_round
    case rel => exact ⟨k + 1, o_, t_, HN'⟩
    case measure => simp [intOf]; omega
  ·have HE := a_2 (m_9 (x := bs s) fun i hi => HN.out i hi o_)
   go_wp2
   exact k_w
theorem b_H (s : ByteArray) (w : World) : Calls prog 90 #[.string s] w fun e w' => e = .returned (.bool (c_T (bs s))) ∧ Below w.heap.size w w' := by
 go_enter func90, ntmps90
 go_wp2_with fail
 refine (d_4 _ a_w 8 s _ (.inr ⟨w.heap.size, 0, rfl, s_, fun i hi => ?_⟩) d_).mono ?_
 ·have hi' : i < 8 := hi
  rw [a_0 (heap_alloc_new w _)]
  match i, hi' with
  | 0, _ => rfl
  | 1, _ => rfl
  | 2, _ => rfl
  | 3, _ => rfl
  | 4, _ => rfl
  | 5, _ => rfl
  | 6, _ => rfl
  | 7, _ => rfl
 rintro e w' ⟨rfl, rfl⟩
 have HE := a_2 (show c_N a_w (bs s) = c_T (bs s) from rfl)
 go_wp2
 go_ret
 exact ⟨a_a (by rw [← HE.out]), zX⟩
end Go.Proofs.YtnpjibaolicbmaaGreatDoor
