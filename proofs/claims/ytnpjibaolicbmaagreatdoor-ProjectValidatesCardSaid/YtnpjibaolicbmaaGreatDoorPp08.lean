/- Parts of the proof. -/
import Derived.Test.YtnpjibaolicbmaaGreatDoorPp07
set_option linter.unusedVariables false
set_option linter.unusedSimpArgs false
set_option maxHeartbeats 2000000
namespace Go.Proofs.YtnpjibaolicbmaaGreatDoor
open Go.Proofs.Tryz
open Go.RowKit
def a_o (f : Nat → Int) : Nat → Int
 | 0 => 0
 | n + 1 => if a_o f n = 0 then f n else a_o f n
theorem a_Y {f : Nat → Int} : ∀ {n : Nat}, (∀ j, j < n → f j = 0) → a_o f n = 0
 | 0, _ => rfl
 | n + 1, h => by
  unfold a_o
  rw [if_pos (a_Y fun j hj => h j o_)]
  exact h n o_
theorem a_q {f : Nat → Int} {k : Nat} (h : ∀ j, j < k → f j = 0) (hf : f k ≠ 0) : ∀ {n : Nat}, k < n → a_o f n = f k
 | 0, hk => absurd hk (Nat.not_lt_zero _)
 | n + 1, hk => by
  unfold a_o
  by_cases e : k = n
  ·subst e; rw [if_pos (a_Y h)]
  ·have ih := a_q h hf (n := n) o_
   rw [ih, if_neg hf]
def b_h (p : Nat → Bool) : Nat → Int
 | 0 => -1
 | n + 1 => if b_h p n < 0 then (if p n = true then (n : Int) else -1) else b_h p n
theorem b_B {p : Nat → Bool} : ∀ {n : Nat}, (∀ j, j < n → p j = false) → b_h p n = -1
 | 0, _ => rfl
 | n + 1, h => by
  unfold b_h
  rw [b_B fun j hj => h j o_, h n o_]
  simp
theorem d_q {p : Nat → Bool} {k : Nat} (h : ∀ j, j < k → p j = false) (hp : p k = true) : ∀ {n : Nat}, k < n → b_h p n = k
 | 0, hk => absurd hk (Nat.not_lt_zero _)
 | n + 1, hk => by
  unfold b_h
  by_cases e : k = n
  ·subst e; rw [b_B h, hp]; simp
  ·have ih := d_q h hp (n := n) o_
   rw [ih, if_neg o_]
theorem f_2 (p : Nat → Bool) : ∀ n : Nat, -1 ≤ b_h p n ∧ b_h p n < n
 | 0 => ⟨by simp [b_h], by simp [b_h]⟩
 | n + 1 => by
  have ih := f_2 p n
  unfold b_h
  repeat' split
  all_goals omega
theorem a_T {P : Nat → Prop} {k : Nat} (h : ∀ j, j < k → P j) (hk : P k) : ∀ j, j < k + 1 → P j := fun j hj => by
 by_cases e : j = k
 ·subst e; exact hk
 ·exact h j o_
def i_G (cs : List Col) (s : a_3) (j : Nat) : Bool := match cs[j]? with
 | some c => c.name == s
 | none => false
theorem h_K {cs : List Col} {s : a_3} {j : Nat} (h : j < cs.length) : i_G cs s j = (cs[j].name == s) := by
 unfold i_G; rw [List.getElem?_eq_getElem h]
def c_k (cs : List Col) (s : a_3) : Int := b_h (i_G cs s) cs.length
set_option maxRecDepth 100000
theorem d_W (A : Option Addr) (cs : List Col) (c : Nat) (s : ByteArray) (w : World) (h : b_1 w A cs) (hl : cs.length ≤ 8796093022208) :
  Calls prog 179 #[.slice A cs.length c, .string s] w fun e w' => e = .returned (.int .i64 (c_k cs (bs s))) ∧ w = w' := by
 have HA := a_2 h
 clear h
 go_enter func179, ntmps179
 go_wp2
 go_loop [5] (fun i => ∃ k : Nat, k ≤ cs.length ∧ i = .int .i64 k ∧ Hid (∀ j, j < k → i_G cs (bs s) j = false)) (fun i => cs.length - (intOf i).toNat)
 case atStart => exact ⟨0, o_, rfl, a_2 fun j hj => absurd hj (Nat.not_lt_zero _)⟩
 case round =>
  obtain ⟨k, hk, rfl, HN⟩ := hrel
  by_cases hlt : k < cs.length
  ·rcases HA.out with e | ⟨g, off, rfl, hg, hc⟩
   ·exact absurd hlt e_
   obtain ⟨c0, c1, c2⟩ := hc k hlt; clear hc
   by_cases he : cs[k].name = bs s
   ·have HE := a_2 (show c_k cs (bs s) = k from d_q HN.out (by rw [h_K hlt, he]; simp) hlt)
    have hb : (cs[k].name == s.toList) = true := by rw [ByteArray.toList_eq]; simp [he, bs]
    clear he; generalize cs[k] = x at *
    go_wp2
    exact _as
   ·have HN' := a_2 (a_T HN.out (show i_G cs (bs s) k = false by rw [h_K hlt]; simpa using he))
    have hb : (cs[k].name == s.toList) = false := by rw [ByteArray.toList_eq]; simpa [bs] using he
    clear he; generalize cs[k] = x at *
    go_wp2
    go_round
    case rel => exact ⟨k + 1, o_, t_, HN'⟩
    case measure => simp [intOf]; omega
  ·have HE := a_2 (show c_k cs (bs s) = -1 from b_B fun j hj => HN.out j o_)
   go_wp2
   exact _as
def i_z (cs : List Col) (j : Nat) : Int := match cs[j]? with
 | none => 0
 | some c => if a_i 24 c.name = false then 4 else if c.kind < 1 ∨ 4 < c.kind then 7 else if c_k cs c.name ≠ j then 6 else 0
set_option maxRecDepth 512
theorem k_W {cs : List Col} {j : Nat} (h : j < cs.length) : i_z cs j = if a_i 24 cs[j].name = false then 4 else if cs[j].kind < 1 ∨ 4 < cs[j].kind then 7 else if c_k cs cs[j].name ≠ j then 6 else 0 := by
 unfold i_z; rw [List.getElem?_eq_getElem h]
def c_t (cs : List Col) : Int := if cs.length < 1 ∨ 12 < cs.length then 2 else a_o (i_z cs) cs.length
set_option maxRecDepth 100000
theorem d_P (A : Option Addr) (cs : List Col) (c : Nat) (w : World) (h : b_1 w A cs) (hl : cs.length ≤ 8796093022208) :
  Calls prog 125 #[.slice A cs.length c] w fun e w' => e = .returned (.int .i64 (c_t cs)) ∧ w = w' := by
 have HA := a_2 h
 have HI := a_2 (fun s => d_W A cs c s w h hl)
 clear h
 by_cases hsz : cs.length < 1 ∨ 12 < cs.length
 ·have HE := a_2 (show c_t cs = 2 from if_pos hsz)
  by_cases h1 : cs.length < 1
  ·go_enter func125, ntmps125
   go_wp2
   exact _as
  ·have h2 : 12 < cs.length := by omega
   go_enter func125, ntmps125
   go_wp2
   exact _as
 have HE := a_2 (show c_t cs = a_o (i_z cs) cs.length from if_neg hsz)
 have h1 : ¬ cs.length < 1 := by omega
 have h2 : ¬ 12 < cs.length := by omega
 clear hsz
 go_enter func125, ntmps125
 go_wp2
 go_loop [3] (fun i => ∃ k : Nat, k ≤ cs.length ∧ i = .int .i64 k ∧ Hid (∀ j, j < k → i_z cs j = 0)) (fun i => cs.length - (intOf i).toNat)
 case atStart => exact ⟨0, o_, rfl, a_2 fun j hj => absurd hj (Nat.not_lt_zero _)⟩
 case round =>
  obtain ⟨k, hk, rfl, HN⟩ := hrel
  by_cases hlt : k < cs.length
  ·rcases HA.out with e | ⟨g, off, rfl, hg, hc⟩
   ·exact absurd hlt e_
   obtain ⟨c0, c1, c2⟩ := hc k hlt; clear hc; have HC := k_W hlt; have HR := a_2 (fun (v : Int) (hv : i_z cs k = v) (hn : v ≠ 0) => show c_t cs = v from HE.out.trans ((a_q HN.out (by rw [hv]; exact hn) hlt).trans hv)); have HN' := a_2 (fun hv : i_z cs k = 0 => a_T HN.out hv); generalize i_z cs k = v0 at *; generalize cs[k] = x at *; obtain ⟨b, hb⟩ : ∃ b, a_i 24 x.name = b := ⟨_, rfl⟩; obtain ⟨i, hi⟩ : ∃ i, c_k cs x.name = i := ⟨_, rfl⟩; rw [hb, hi] at HC
   have HIs := a_2 (fun W => by
    have := b_5 ⟨x.name.toArray⟩ W; rw [show a_i 24 (bs ⟨x.name.toArray⟩) = b from hb] at this
    exact this)
   have HIx := a_2 (by
    have := HI.out ⟨x.name.toArray⟩; rw [show c_k cs (bs ⟨x.name.toArray⟩) = i from hi] at this
    exact this)
   clear hb hi HI HE
   cases b
   ·have HV := a_2 (HR.out 4 (by rw [HC]; simp) d_)
    clear HC HR HN'
    go_wp2_with (go_at_call 89; refine (HIs.out _).mono ?_; rintro e w' ⟨rfl, rfl⟩)
    exact p_d
   by_cases q1 : x.kind < 1
   ·have HV := a_2 (HR.out 7 (by rw [HC]; simp [q1]) d_)
    clear HC HR HN'
    go_wp2_with (go_at_call 89; refine (HIs.out _).mono ?_; rintro e w' ⟨rfl, rfl⟩)
    exact p_d
   by_cases q2 : 4 < x.kind
   ·have HV := a_2 (HR.out 7 (by rw [HC]; simp [q2]) d_)
    clear HC HR HN'
    go_wp2_with (go_at_call 89; refine (HIs.out _).mono ?_; rintro e w' ⟨rfl, rfl⟩)
    exact p_d
   by_cases q3 : i = k
   ·subst q3
    have q6 : ((k : Int) != (k : Int)) = false := by simp
    have HV := a_2 (HN'.out (by rw [HC]; simp [q1, q2])); clear HC HR HN'
    go_wp2_with (first | (go_at_call 89; refine (HIs.out _).mono ?_; rintro e w' ⟨rfl, rfl⟩) | (go_at_call 179; refine (HIx.out).mono ?_; rintro e w' ⟨rfl, rfl⟩))
    exact ⟨⟨k + 1, o_, t_, HV⟩, w_⟩
   ·have q4 : (i == (k : Int)) = false := beq_eq_false_iff_ne.2 q3
    have q5 : (i != (k : Int)) = true := by simpa using q3
    have HV := a_2 (HR.out 6 (by rw [HC]; simp [q1, q2, q3]) d_); clear HC HR HN'
    go_wp2_with (first | (go_at_call 89; refine (HIs.out _).mono ?_; rintro e w' ⟨rfl, rfl⟩) | (go_at_call 179; refine (HIx.out).mono ?_; rintro e w' ⟨rfl, rfl⟩))
    exact p_d
  ·have HV := a_2 (HE.out.trans (a_Y fun j hj => HN.out j o_))
   go_wp2
   exact p_d
def inB (x : Int) : Bool := decide (-840 ≤ x) && decide (x ≤ 840)
set_option maxRecDepth 512
theorem c_z (x : Int) (W : World) : Calls prog 177 #[.int .i64 x] W fun e w' => e = .returned (.bool (inB x)) ∧ W = w' := by
 have HE := a_2 (show inB x = (decide (-840 ≤ x) && decide (x ≤ 840)) from rfl)
 go_enter func177, ntmps177
 go_wp2
 all_goals
  exact r_d
def h_B (w : World) (S : Option Addr) (sh : List (Int × Int)) : Prop :=
 sh = [] ∨ ∃ g off, S = some ⟨g, off, none⟩ ∧ g < w.heap.size ∧ ∀ i (h : i < sh.length), w.cell? ⟨g, off + i * 2, none⟩ = some (.int .i64 sh[i].1) ∧ w.cell? ⟨g, off + i * 2 + 1, none⟩ = some (.int .i64 sh[i].2)
theorem h_B.below {w w' : World} {S : Option Addr} {sh : List (Int × Int)} (h : h_B w S sh) (hb : Below w.heap.size w w') : h_B w' S sh := by
 rcases h with h | ⟨g, off, hA, hg, hc⟩
 ·exact .inl h
 ·refine .inr ⟨g, off, hA, Nat.lt_of_lt_of_le hg hb.size, fun i hi => ?_⟩
  exact s_l
def shB (s : Int × Int) : Bool := decide (s.1 < 1) || decide (575999999 < s.1) || !inB s.2
def shE (sh : List (Int × Int)) (j : Nat) : Int := match sh[j]?, sh[j - 1]? with
 | some s, some p => if shB s = true then 1 else if 0 < j ∧ s.1 ≤ p.1 then 14 else 0
 | _, _ => 0
theorem p_h {sh : List (Int × Int)} {j : Nat} (h : j < sh.length) : shE sh j = if shB sh[j] = true then 1 else if 0 < j ∧ sh[j].1 ≤ (sh[j - 1]'o_).1 then 14 else 0 := by
 unfold shE; rw [List.getElem?_eq_getElem h, List.getElem?_eq_getElem (show j - 1 < sh.length by omega)]
def m_G (o : Int) (sh : List (Int × Int)) : Int := if 64 < sh.length then 2 else if inB o = false then 1 else a_o (shE sh) sh.length
set_option maxRecDepth 100000
theorem g_p (nm : ByteArray) (o : Int) (S : Option Addr) (sh : List (Int × Int)) (c : Nat) (w : World) (h : h_B w S sh) (hl : sh.length ≤ 8796093022208) :
  Calls prog 121 #[.agg #[.string nm, .int .i64 o, .slice S sh.length c]] w fun e w' => e = .returned (.int .i64 (m_G o sh)) ∧ Below w.heap.size w w' := by
 have HA := a_2 h
 clear h
 have HW := a_2 (fun W => c_z o W)
 refine s_8 ?_; intro H1 H2 H3
 generalize inB o = b0 at *
 by_cases h64 : 64 < sh.length
 ·have HV := a_2 (H1.out h64)
  go_enter func121, ntmps121
  go_wp2_with (go_at_call 177; refine (HW.out _).mono ?_; rintro e w' ⟨rfl, rfl⟩)
  exact p_R
 cases b0
 ·have HV := a_2 (H2.out h64 rfl)
  go_enter func121, ntmps121
  go_wp2_with (go_at_call 177; refine (HW.out _).mono ?_; rintro e w' ⟨rfl, rfl⟩)
  exact p_R
 have HE := a_2 (H3.out h64 s_)
 clear H1 H2 H3
 go_enter func121, ntmps121
 go_wp2_with (go_at_call 177; refine (HW.out _).mono ?_; rintro e w' ⟨rfl, rfl⟩)
 ·generalize hW : w.alloc _ = W1
  refine s_A ?_; intro hB hh
  clear hW
  go_loopw [3] (fun i wr => ∃ k : Nat, k ≤ sh.length ∧ i = .int .i64 k ∧ Hid (∀ j, j < k → shE sh j = 0) ∧ Below W1.heap.size W1 wr) (fun i _ => sh.length - (intOf i).toNat)
  case atStart => exact ⟨0, o_, rfl, a_2 fun j hj => absurd hj (Nat.not_lt_zero _), b_ _ _⟩
  case round =>
   obtain ⟨k, hk, rfl, HN, hbel⟩ := hrel; refine s_6 ?_; intro hh2 z0 hsz hbw hbz hlw HH; clear hh hh2
   by_cases hlt : k < sh.length
   ·rcases (HA.out.below hB).below hbel with e | ⟨g, off, rfl, hg, hc⟩
    ·exact absurd hlt e_
    refine s_5 ?_; intro c0 c1 HC HR HN'; generalize shE sh k = v0 at *; have HWi := a_2 (fun (x : Int) W => c_z x W)
    by_cases hk0 : k = 0
    ·have d0 : decide ((0 : Int) < (k : Int)) = false := by simp; omega
     have d1 : decide (0 < k) = false := by simp; omega
     rw [if_neg (show ¬ (0 < k ∧ sh[k].1 ≤ (sh[k - 1]'o_).1) from fun h => by omega)] at HC; clear hc hk0; generalize sh[k] = x at *; obtain ⟨a, b⟩ := x; refine q_o ?_; intro HS; have HWb := a_2 (fun W => c_z b W); generalize inB b = bb at *; simp only at c0 c1; refine o_u ?_; intro hlx
     by_cases a1 : a < 1
     ·have HV := a_2 (HR.out 1 (by rw [HC, if_pos (by rw [HS.out]; simp_all)]) d_)
      clear HC HR HN'
      go_wp2_with (go_at_call 177; refine (HWb.out _).mono ?_; rintro e w' ⟨rfl, rfl⟩)
      exact k_p
     by_cases a2 : 575999999 < a
     ·have HV := a_2 (HR.out 1 (by rw [HC, if_pos (by rw [HS.out]; simp_all)]) d_)
      clear HC HR HN'
      go_wp2_with (go_at_call 177; refine (HWb.out _).mono ?_; rintro e w' ⟨rfl, rfl⟩)
      exact k_p
     cases bb
     ·have HV := a_2 (HR.out 1 (by rw [HC, if_pos (by rw [HS.out]; simp_all)]) d_)
      clear HC HR HN'
      go_wp2_with (go_at_call 177; refine (HWb.out _).mono ?_; rintro e w' ⟨rfl, rfl⟩)
      exact k_p
     refine p_N ?_; intro HF; have HV := a_2 (HN'.out (by rw [HC, if_neg (by rw [HF.out]; simp)])); clear HC HR HN'
     go_wp2_with (go_at_call 177; refine (HWb.out _).mono ?_; rintro e w' ⟨rfl, rfl⟩)
     go_big_quiet (fail)
     go_wp2
     exact q_a
    ·have hc2 := (hc (k - 1) o_).1
     refine q_q ?_; intro d0 d1 hw ht hi0; have hi2 : (1 : Int) ≤ (k : Int) := by omega
     have hi1 : (k : Int) - 1 < (sh.length : Int) := by omega
     clear hc; generalize sh[k] = x at *; generalize (sh[k - 1]'o_).1 = y at *; obtain ⟨a, b⟩ := x; refine q_o ?_; intro HS; have HWb := a_2 (fun W => c_z b W); generalize inB b = bb at *; simp only at c0 c1; refine o_u ?_; intro hlx
     by_cases a1 : a < 1
     ·have HV := a_2 (HR.out 1 (by rw [HC, if_pos (by rw [HS.out]; simp_all)]) d_)
      clear HC HR HN'
      go_wp2_with (go_at_call 177; refine (HWb.out _).mono ?_; rintro e w' ⟨rfl, rfl⟩)
      exact k_p
     by_cases a2 : 575999999 < a
     ·have HV := a_2 (HR.out 1 (by rw [HC, if_pos (by rw [HS.out]; simp_all)]) d_)
      clear HC HR HN'
      go_wp2_with (go_at_call 177; refine (HWb.out _).mono ?_; rintro e w' ⟨rfl, rfl⟩)
      exact k_p
     cases bb
     ·have HV := a_2 (HR.out 1 (by rw [HC, if_pos (by rw [HS.out]; simp_all)]) d_)
      clear HC HR HN'
      go_wp2_with (go_at_call 177; refine (HWb.out _).mono ?_; rintro e w' ⟨rfl, rfl⟩)
      exact k_p
     refine p_N ?_; intro HF
     by_cases hy : a ≤ y
     ·have HV := a_2 (HR.out 14 (by rw [HC, if_neg (by rw [HF.out]; simp), if_pos ⟨o_, hy⟩]) d_)
      clear HC HR HN'
      go_wp2_with (go_at_call 177; refine (HWb.out _).mono ?_; rintro e w' ⟨rfl, rfl⟩)
      go_big_quiet (fail)
      go_wp2
      exact r_Y
     ·have HV := a_2 (HN'.out (by rw [HC, if_neg (by rw [HF.out]; simp), if_neg (fun h => hy h.2)]))
      clear HC HR HN'
      go_wp2_with (go_at_call 177; refine (HWb.out _).mono ?_; rintro e w' ⟨rfl, rfl⟩)
      go_big_quiet (fail)
      go_wp2
      exact q_a
   ·have HV := a_2 (HE.out.trans (a_Y fun j hj => HN.out j o_))
    go_wp2
    go_ret
    exact ⟨by rw [HV.out]; rfl, hbw⟩
set_option maxRecDepth 512
structure Zon where
 name : a_3
 off : Int
 sh : List (Int × Int)
def o_f (w : World) (Z : Option Addr) (zs : List Zon) : Prop :=
 zs = [] ∨ ∃ g off, Z = some ⟨g, off, none⟩ ∧ g < w.heap.size ∧ ∀ i (h : i < zs.length), ∃ (S : Option Addr) (sc : Nat),
  w.cell? ⟨g, off + i * 3, none⟩ = some (str zs[i].name) ∧ w.cell? ⟨g, off + i * 3 + 1, none⟩ = some (.int .i64 zs[i].off) ∧ w.cell? ⟨g, off + i * 3 + 2, none⟩ = some (.slice S zs[i].sh.length sc) ∧ h_B w S zs[i].sh ∧ zs[i].sh.length ≤ 8796093022208
theorem o_f.below {w w' : World} {Z : Option Addr} {zs : List Zon} (h : o_f w Z zs) (hb : Below w.heap.size w w') : o_f w' Z zs := by
 rcases h with h | ⟨g, off, hA, hg, hc⟩
 ·exact .inl h
 ·refine .inr ⟨g, off, hA, Nat.lt_of_lt_of_le hg hb.size, fun i hi => ?_⟩
  obtain ⟨S, sc, h1, h2, h3, h4, h5⟩ := hc i hi
  exact ⟨S, sc, (hb.cell (p := ⟨g, _, none⟩) hg).trans h1, (hb.cell (p := ⟨g, _, none⟩) hg).trans h2, (hb.cell (p := ⟨g, _, none⟩) hg).trans h3, h4.below hb, h5⟩
def t_r (zs : List Zon) (s : a_3) (j : Nat) : Bool := match zs[j]? with
 | some z => z.name == s
 | none => false
def s_N (zs : List Zon) (s : a_3) : Bool := decide (0 ≤ b_h (t_r zs s) zs.length)
end Go.Proofs.YtnpjibaolicbmaaGreatDoor
