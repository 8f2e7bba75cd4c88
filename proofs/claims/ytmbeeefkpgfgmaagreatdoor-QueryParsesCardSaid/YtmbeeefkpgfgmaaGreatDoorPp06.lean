/- Parts of the proof. -/
import Derived.Test.YtmbeeefkpgfgmaaGreatDoorPp02
import Derived.Test.YtmbeeefkpgfgmaaGreatDoorPp05
set_option linter.unusedVariables false
set_option linter.unusedSimpArgs false
set_option maxHeartbeats 4000000
namespace Go.Proofs.YtmbeeefkpgfgmaaGreatDoor
open Go.Proofs.Tryz
open Go.RowKit
abbrev c_9 (ts : List Tok) : List Value := ts.flatMap Tok.cells
def l_K (w w' : World) (r : Except (Nat × Int) (List Tok)) (e : Ending) : Prop :=
 match r with
 | .ok ts => ∃ (A : Option Addr) (c : Nat), e = .returned (.tuple #[.slice A ts.length c, .int .i64 0, .int .i64 0]) ∧ w'.ownsRow w.heap.size 99 4 (.slice A ts.length c) ts.length (c_9 ts)
 | .error x => e = .returned (.tuple #[.slice none 0 0, .int .i64 (x.1 : Nat), .int .i64 x.2])
theorem d_P (w : World) (a b c d : Value) (t : TypeId) : ∀ (j : Nat) (u : Value), [a, b, c, d][j]? = some u → (w.alloc (.cells #[a, b, c, d] t)).cell? ((⟨w.heap.size, 0, none⟩ : Addr).add j) = some u := by
 intro j u h
 have e : (⟨w.heap.size, 0, none⟩ : Addr).add j = ⟨w.heap.size, j, none⟩ := by unfold Addr.add; split <;> simp_all
 rw [e, a_2 (heap_alloc_new w _)]
 simpa using h
theorem a_8 {w w' : World} {base e size n : Nat} {v : Value} {xs : List Value} (h : w.ownsRow base e size v n xs) (hb : Below w.heap.size w w') : w'.ownsRow base e size v n xs :=
 h.kept (row := none) ⟨hb.os, hb.tape, hb.output, hb.size, fun i hi _ => hb.block i hi⟩ (by
  rcases h.2 with ⟨rfl, _⟩ | ⟨g, cap, cur, rfl, _⟩
  ·left; rfl
  ·right; simp [Value.ownBlock])
theorem e_Q {B : Nat} {w w1 w2 : World} (h : Below B w w1) (hB : B ≤ w1.heap.size) (h2 : Below w1.heap.size w1 w2) : Below B w w2 := h.trans (h2.mono hB)
theorem j_z (s : ByteArray) (w : World) : Calls prog 139 #[.string s, .int .u8 10] w fun e w' => e = .returned (.int .i64 (Lib.indexByte (bs s) 10)) ∧ w = w' :=
 (Tryz.strings_IndexByte s 10 w).mono fun _ _ ⟨h1, h2⟩ => ⟨h1, h2.symm⟩
theorem o_G {c : UInt8} (h : c_c c = true) : ((c.toNat : Int) == 32) = true ∨ (((c.toNat : Int) == 32) = false ∧ ((c.toNat : Int) == 9) = true) ∨ (((c.toNat : Int) == 32) = false ∧ ((c.toNat : Int) == 9) = false ∧ ((c.toNat : Int) == 10) = true) := by
 unfold c_c at h; simp at h; simp; omega
theorem p_P {c : UInt8} (h : c_c c = false) : ((c.toNat : Int) == 32) = false ∧ ((c.toNat : Int) == 9) = false ∧ ((c.toNat : Int) == 10) = false := by
 unfold c_c at h; simp at h; simp; omega
theorem h_V {s : ByteArray} {i : Nat} {acc : List Tok} (h : b_H (bs s) i acc) : i ≤ s.size ∧ acc.length ≤ i := h.2
set_option maxRecDepth 100000
theorem h_n (s : ByteArray) (w : World) (hG : Glob w) (hs : s.size ≤ maxLen) :
  Calls prog 82 #[.string s] w fun e w' => l_K w w' (b_z (bs s)) e ∧ Below w.heap.size w w' := by
 have HG := a_0 hG
 clear hG
 unfold maxLen at hs
 by_cases hbig : 65536 < s.size
 ·have H := a_0 (show b_z (bs s) = .error (0, 2) by unfold b_z; rw [a_b, if_pos hbig])
  go_enter func82, ntmps82
  go_wp2
  go_step3
  go_wp2
  try rw [Exit.noGoto_ret]
  go_ret3
  refine ⟨?_, b_ _ _⟩
  rw [H.out]; exact rfl
 ·have H := a_0 (show b_z (bs s) = a_U (bs s).length (bs s) 0 by unfold b_z; rw [a_b, if_neg hbig])
  obtain ⟨i0, hi, hz0, hz1, hz2⟩ := info_parts Tryz.info_tok
  go_enter func82, ntmps82
  go_wp2
  go_step3
  go_wp2
  go_step3
  go_wp2
  go_loopw [2, 5] (fun v i wr => ∃ (k : Nat) (acc : List Tok) (A : Option Addr) (c : Nat), v = .slice A acc.length c ∧ i = .int .i64 k ∧ Hid (b_H (bs s) k acc) ∧
    wr.ownsRow w.heap.size 99 4 (.slice A acc.length c) acc.length (c_9 acc) ∧ Below w.heap.size w wr) (fun _ i _ => s.size - (intOf i).toNat)
  case atStart => exact ⟨0, [], none, 0, rfl, rfl, f_9 _, a_o _ _ _ _, b_ _ _⟩
  case round =>
   obtain ⟨k, acc, A, c, rfl, rfl, HR, hown, hbel⟩ := hrel; obtain ⟨hk, hacc⟩ := h_V HR.out; have hsz := hbel.size
   by_cases hlt : k < s.size
   ·cases hb : c_c s[k]
    ·obtain ⟨b1, b2, b3⟩ := p_P hb
     by_cases h35 : s[k].toNat = 35
     ·have b4 : ((s[k].toNat : Int) == 35) = true := by simp; omega
      obtain ⟨hr2, hp1, hp2⟩ := f_N HR.out hlt hb h35; obtain ⟨hx1, hx2⟩ := k_o ((bs s).drop k); rw [← d_p] at hx1 hx2 hp1 hp2 hr2; have hlen : (bs (s.extract k s.size)).length = s.size - k := by rw [d_p, List.length_drop, a_b]
      rw [hlen] at hx1; clear hlen; have HIX := a_0 (fun W => j_z (s.extract k s.size) W); generalize Lib.indexByte (bs (s.extract k s.size)) 10 = n at *; generalize b_w (bs (s.extract k s.size)) = m at *; clear hb h35
      by_cases hn : n < 0
      ·have hm := hx1 hn
       have e : k + m = s.size := by omega
       have HE := a_0 (show b_z (bs s) = _ by rw [H.out, e_J (show b_H (bs s) s.size acc from e ▸ hr2)]); clear hx1 hx2 hr2 hm e
       go_wp2_with (first | (go_at_call 139; refine (HIX.out _).mono ?_; rintro e w' ⟨rfl, rfl⟩) | (at_builtin; refine wpList_append_own _ rfl _ _ 49 rfl w.heap.size 99 i0 _ 4 40 underlying49 hi hz0 hz1 hz2 rfl d_ _ _ _ rfl (hown.alloc _) ⟨wr.heap.size, 0, none⟩ 1 1 [.int .i64 0, .string ⟨#[]⟩, .int .i64 0, .int .i64 s.size] rfl rfl (d_P _ _ _ _ _ _) c_ x_ o_ m_ ?_; intro v' w2 hown' hgrow _))
       refine r_t ?_; intro hb2; obtain ⟨A', c', hv⟩ := a_i hown'
       try rw [Exit.noGoto_ret]
       exact v_h
      ·have hm := hx2 hn
       subst hm; have HR2 := a_0 hr2; clear hx1 hx2 hr2
       go_wp2_with (go_at_call 139; refine (HIX.out _).mono ?_; rintro e w' ⟨rfl, rfl⟩)
       exact ⟨⟨k + m, acc, A, c, rfl, t_, HR2, hown, hbel⟩, w_⟩
     ·have b4 : ((s[k].toNat : Int) == 35) = false := by simp; omega
      cases ho : e_Y ((bs s).drop k) with
      | error er =>
       have HE := a_0 (show b_z (bs s) = _ by rw [H.out, g_P HR.out hlt hb h35 ho]); have HO := a_0 ho; clear ho hb h35
       go_wp2_with fail
       refine (f_H (s.extract k s.size) _ (HG.out.below (hbel.mono (l_ _))) m_ m_).mono ?_; rintro e w1 ⟨hres, hb1⟩; rw [d_p, HO.out] at hres; obtain ⟨hc0, t, m, rfl⟩ := hres; have hc1 : ((er : Int) != 0) = true := by simpa using hc0
       clear hc0; have hsz1 := hb1.size; have hb2 := e_Q hbel hsz hb1
       go_wp2
       try rw [Exit.noGoto_ret]
       go_ret3
       refine ⟨?_, zX⟩; rw [HE.out]
       rfl
      | ok x =>
       obtain ⟨t, m⟩ := x; obtain ⟨hr2, hp1, hp2⟩ := g_E HR.out hlt hb h35 ho; have HR2 := a_0 hr2; have HO := a_0 ho; clear ho hb h35 hr2
       go_wp2_with fail
       refine (f_H (s.extract k s.size) _ (HG.out.below (hbel.mono (l_ _))) m_ m_).mono ?_; rintro e w1 ⟨hres, hb1⟩; rw [d_p, HO.out] at hres; obtain rfl : e = .returned (.tuple #[t.agg, .int .i64 (m : Nat), .int .i64 0]) := hres; have hsz1 := hb1.size; have hb2 := e_Q hbel hsz hb1; have hown1 := a_8 hown hb1
       go_wp2_with (at_builtin; refine wpList_append_own _ rfl _ _ 49 rfl w.heap.size 99 i0 _ 4 40 underlying49 hi hz0 hz1 hz2 rfl d_ _ _ _ rfl ((hown1.alloc _).alloc _) ⟨w1.heap.size + 1, 0, none⟩ 1 1 [.int .i64 t.kind, str t.text, .int .i64 t.num, .int .i64 k] rfl rfl (by have h := d_P (w1.alloc (.cells #[.int .i64 t.kind, str t.text, .int .i64 t.num, .int .i64 k] 99)) (.int .i64 t.kind) (str t.text) (.int .i64 t.num) (.int .i64 k) 99; simpa using h) c_ x_ o_ m_ ?_; intro v' w2 hown' hgrow _)
       have hb3 := ((hb2.alloc o_ _).alloc m_ _).grown hgrow m_ (fun k hk => (hown1.lt k hk).1); obtain ⟨A', c', rfl⟩ := a_i hown'; exact ⟨⟨k + m, acc ++ [{ t with off := k }], A', c', s_, t_, HR2, by simpa [Tok.cells] using hown', hb3⟩, w_⟩
    ·have HR2 := a_0 (f_a HR.out hlt hb)
     rcases o_G hb with b1 | ⟨b1, b2⟩ | ⟨b1, b2, b3⟩
     all_goals
      clear hb
      go_wp2
      exact ⟨⟨k + 1, acc, A, c, rfl, t_, HR2, hown, hbel⟩, w_⟩
   ·obtain rfl : k = s.size := by omega
    have HE := a_0 (show b_z (bs s) = _ by rw [H.out, e_J HR.out])
    go_wp2_with (at_builtin; refine wpList_append_own _ rfl _ _ 49 rfl w.heap.size 99 i0 _ 4 40 underlying49 hi hz0 hz1 hz2 rfl d_ _ _ _ rfl (hown.alloc _) ⟨wr.heap.size, 0, none⟩ 1 1 [.int .i64 0, .string ⟨#[]⟩, .int .i64 0, .int .i64 s.size] rfl rfl (d_P _ _ _ _ _ _) c_ x_ o_ m_ ?_; intro v' w2 hown' hgrow _)
    refine r_t ?_; intro hb2; obtain ⟨A', c', hv⟩ := a_i hown'
    try rw [Exit.noGoto_ret]
    exact v_h
end Go.Proofs.YtmbeeefkpgfgmaaGreatDoor
