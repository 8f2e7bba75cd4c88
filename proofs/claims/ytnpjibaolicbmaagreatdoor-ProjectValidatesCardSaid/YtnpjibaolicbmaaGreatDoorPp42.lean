/- Parts of the proof. -/
import Derived.Test.YtnpjibaolicbmaaGreatDoorPp23
import Derived.Test.YtnpjibaolicbmaaGreatDoorPp41
set_option linter.unusedVariables false
set_option linter.unusedSimpArgs false
set_option maxHeartbeats 16000000
namespace Go.Proofs.YtnpjibaolicbmaaGreatDoor
open Go.Proofs.Tryz
open Go.RowKit
theorem Tryz.info_mdu : (prog.info? 36).map (fun i => (i.zero, i.size, i.bytes)) = some (some (.agg #[.string ⟨#[]⟩, .slice none 0 0, .slice none 0 0, .slice none 0 0, .slice none 0 0, .slice none 0 0, .slice none 0 0, .slice none 0 0]), 8, 184) := by kernel_rfl
structure Mdu.sm (k : Nat) (m : Mdu) : Prop where
 u : m.uses.length ≤ k
 d : m.defs.sm k
abbrev m_K (u : Pl) (m : Mdu) (a : DAdr) (W : World) : Prop := a_B XB (fun V => b_9 V u m.uses ∧ m.defs.Sl V a) W
def e_q (W : World) (k : Nat) : Prop := ∃ (m : Mdu) (u : Pl) (a : DAdr), W.heap[k]? = some (.cells (m.cells u a).toArray 36) ∧ (m.ok ∧ m.sm 64) ∧ m_K u m a W
theorem e_q.go {W V : World} {k : Nat} (h : e_q W k) (hb : Below W.heap.size W V) : e_q V k := by
 obtain ⟨m, u, a, h1, h2, h3⟩ := h
 exact ⟨m, u, a, (hb.block _ (a_6 h1)).trans h1, h2, h3.go (KeepX.of hb)⟩
theorem q_S {W : World} {g : Nat} {cs : Array Value} (h : W.heap[g]? = some (.cells cs 36)) (v0 v1 v2 v3 v4 v5 v6 v7 : Value) : KeepX XB W ((((((((W.setCell ⟨g, 0, none⟩ v0).setCell ⟨g, 1, none⟩ v1).setCell ⟨g, 2, none⟩ v2).setCell ⟨g, 3, none⟩ v3).setCell ⟨g, 4, none⟩ v4).setCell ⟨g, 5, none⟩ v5).setCell ⟨g, 6, none⟩ v6).setCell ⟨g, 7, none⟩ v7) ∧ ∀ k, k ≠ g → ((((((((W.setCell ⟨g, 0, none⟩ v0).setCell ⟨g, 1, none⟩ v1).setCell ⟨g, 2, none⟩ v2).setCell ⟨g, 3, none⟩ v3).setCell ⟨g, 4, none⟩ v4).setCell ⟨g, 5, none⟩ v5).setCell ⟨g, 6, none⟩ v6).setCell ⟨g, 7, none⟩ v7).heap[k]? = W.heap[k]? := by
 have hx : ∀ (U : World) (j : Nat) (v : Value), (∃ cs r, U.heap[g]? = some (.cells cs 36 r)) → (KeepX XB U (U.setCell ⟨g, j, none⟩ v) ∧ ∃ cs r, (U.setCell ⟨g, j, none⟩ v).heap[g]? = some (.cells cs 36 r)) := fun U j v ⟨cs, r, h⟩ =>
  ⟨KeepX.set fun o ho => by rw [h] at ho; exact ⟨_, _, .inr (Option.some.inj ho).symm⟩, _, _, a_t h⟩
 obtain ⟨k0, h0⟩ := hx _ 0 v0 ⟨_, _, h⟩
 obtain ⟨k1, h1⟩ := hx _ 1 v1 h0
 obtain ⟨k2, h2⟩ := hx _ 2 v2 h1
 obtain ⟨k3, h3⟩ := hx _ 3 v3 h2
 obtain ⟨k4, h4⟩ := hx _ 4 v4 h3
 obtain ⟨k5, h5⟩ := hx _ 5 v5 h4
 obtain ⟨k6, h6⟩ := hx _ 6 v6 h5
 obtain ⟨k7, h7⟩ := hx _ 7 v7 h6
 exact ⟨k0.trans (k1.trans (k2.trans (k3.trans (k4.trans (k5.trans (k6.trans k7)))))), fun k hk => by
  simp [World.setCell, Array.getElem?_modify, Ne.symm hk]⟩
theorem q_w {W : World} {g : Nat} {x0 x1 x2 x3 x4 x5 x6 x7 : Value} {t : TypeId} (h : W.heap[g]? = some (.cells #[x0, x1, x2, x3, x4, x5, x6, x7] t)) (v0 v1 v2 v3 v4 v5 v6 v7 : Value) : ((((((((W.setCell ⟨g, 0, none⟩ v0).setCell ⟨g, 1, none⟩ v1).setCell ⟨g, 2, none⟩ v2).setCell ⟨g, 3, none⟩ v3).setCell ⟨g, 4, none⟩ v4).setCell ⟨g, 5, none⟩ v5).setCell ⟨g, 6, none⟩ v6).setCell ⟨g, 7, none⟩ v7).heap[g]? = some (.cells #[v0, v1, v2, v3, v4, v5, v6, v7] t) := by
 have h8 := a_t (j := 7) (v := v7) (a_t (j := 6) (v := v6) (a_t (j := 5) (v := v5) (a_t (j := 4) (v := v4) (a_t (j := 3) (v := v3) (a_t (j := 2) (v := v2) (a_t (j := 1) (v := v1) (a_t (j := 0) (v := v0) h)))))))
 simpa using h8
theorem t_f {B g : Nat} {w W : World} (h : Below B w W) (hb : B ≤ g) (v0 v1 v2 v3 v4 v5 v6 v7 : Value) : Below B w ((((((((W.setCell ⟨g, 0, none⟩ v0).setCell ⟨g, 1, none⟩ v1).setCell ⟨g, 2, none⟩ v2).setCell ⟨g, 3, none⟩ v3).setCell ⟨g, 4, none⟩ v4).setCell ⟨g, 5, none⟩ v5).setCell ⟨g, 6, none⟩ v6).setCell ⟨g, 7, none⟩ v7) :=
 (((((((h.setCell hb _).setCell hb _).setCell hb _).setCell hb _).setCell hb _).setCell hb _).setCell hb _).setCell hb _
theorem i_D {W : World} {g : Nat} (h : e_q W g) {m : Mdu} {u : Pl} {a : DAdr} (h2 : m.ok ∧ m.sm 64) (h3 : m_K u m a W) {W' : World} (hW : W' = (((((((W.setCell ⟨g, 0, none⟩ (str m.name)).setCell ⟨g, 1, none⟩ (slV u m.uses.length)).setCell ⟨g, 2, none⟩ (slV a.z m.defs.zones.length)).setCell ⟨g, 3, none⟩ (slV a.s m.defs.srcs.length)).setCell ⟨g, 4, none⟩ (slV a.m m.defs.macs.length)).setCell ⟨g, 5, none⟩ (slV a.d m.defs.mdls.length)).setCell ⟨g, 6, none⟩ (slV a.n m.defs.snps.length)).setCell ⟨g, 7, none⟩ (slV a.c m.defs.chks.length)) :
  (KeepX XB W W' ∧ ∀ k, e_q W k → e_q W' k) ∧ ∀ B w, Below B w W → B ≤ g → Below B w W' := by
 subst hW
 obtain ⟨m0, u0, a0, h1, _, _⟩ := h
 have hk := q_S h1 (str m.name) (slV u m.uses.length) (slV a.z m.defs.zones.length) (slV a.s m.defs.srcs.length) (slV a.m m.defs.macs.length) (slV a.d m.defs.mdls.length) (slV a.n m.defs.snps.length) (slV a.c m.defs.chks.length)
 refine ⟨⟨hk.1, fun k hm => ?_⟩, fun B w hb hg => t_f hb hg _ _ _ _ _ _ _ _⟩
 by_cases e : k = g
 ·subst e
  exact ⟨m, u, a, q_w h1 _ _ _ _ _ _ _ _, h2, h3.go hk.1⟩
 ·obtain ⟨m1, u1, a1, q1, q2, q3⟩ := hm
  exact ⟨m1, u1, a1, (hk.2 k e).trans q1, q2, q3.go hk.1⟩
abbrev HM : (Nat → Bool) → World → World → Prop := fun _ u v => KeepX XB u v ∧ ∀ k, e_q u k → e_q v k
theorem b_Z {w : World} : Lull HM (fun _ W => Below w.heap.size w W) (fun t => t ≠ 34 ∧ t ≠ 36) where
 refl := fun _ w => ⟨KeepX.refl _ w, fun _ h => h⟩
 anti := fun _ _ _ _ h => h
 grow := fun _ _ _ h => ⟨KeepX.of h, fun _ k => k.go h⟩
 keep := fun _ _ _ g cs t ht h hg => h.1.block g _ hg (nXB ht.1 ht.2)
 next := fun _ _ _ _ h hb => a_9 hb h
def vD (W : World) (v : Value) : Prop := ∃ (d : Dfs) (a : DAdr), v = .agg #[slV a.z d.zones.length, slV a.s d.srcs.length, slV a.m d.macs.length, slV a.d d.mdls.length, slV a.n d.snps.length, slV a.c d.chks.length] ∧ (d.ok ∧ d.sm 64) ∧ a_B XB (fun V => d.Sl V a) W
def vM (W : World) (v : Value) : Prop := ∃ (m : Mdu) (u : Pl) (a : DAdr), v = .agg #[str m.name, slV u m.uses.length, slV a.z m.defs.zones.length, slV a.s m.defs.srcs.length, slV a.m m.defs.macs.length, slV a.d m.defs.mdls.length, slV a.n m.defs.snps.length, slV a.c m.defs.chks.length] ∧ (m.ok ∧ m.sm 64) ∧ m_K u m a W
structure MRow (B T : Nat) (W : World) (A : Option Addr) (k d : Nat) (ms : List Mdu) (vss : List (List Value)) : Prop where
 len : ms.length = k
 own : W.ownsRow B 36 8 (.slice A k d) k vss.flatten
 vl : vss.length = k
 row : ∀ v ∈ vss, v.length = 8
 tell : ∀ i (h : i < ms.length) (h' : i < vss.length), a_B XB (fun V => f_g V ms[i] vss[i]) W
 ok : ∀ m ∈ ms, m.ok ∧ m.sm 64
 top : ∀ b, (Value.slice A k d).ownBlock = some b → b < T
theorem MRow.go {B T : Nat} {W V : World} {A : Option Addr} {k d : Nat} {ms : List Mdu} {vss : List (List Value)} (h : MRow B T W A k d ms vss) (hT : T ≤ W.heap.size) (hb : Below T W V) (hk : KeepX XB W V) : MRow B T V A k d ms vss :=
 { h with
  own := by
   refine ⟨h.own.1, ?_⟩
   rcases h.own.2 with ⟨hn, hz⟩ | ⟨g, cap, cur, hA, hg, hh, hr⟩
   ·exact .inl ⟨hn, hz⟩
   ·have hgT : g < T := h.top g (by rw [hA]; rfl)
    exact .inr ⟨g, cap, cur, hA, hg, (hb.block _ hgT).trans hh, hr⟩
  tell := fun i h1 h2 => (h.tell i h1 h2).go hk }
theorem MRow.push {B T c n : Nat} {W V : World} {A A' : Option Addr} {k d : Nat} {ms : List Mdu} {vss : List (List Value)} (h : MRow B T W A k d ms vss) {m : Mdu} {u : Pl} {a : DAdr} (hm : m.ok ∧ m.sm 64) (hr : m_K u m a W) (hk : KeepX XB W V) (hn : n = k + 1)
  (ho : V.ownsRow B 36 8 (.slice A' n c) n (vss.flatten ++ m.cells u a)) (hB : V.heap.size ≤ T + T + V.heap.size) : MRow B V.heap.size V A' n c (ms ++ [m]) (vss ++ [m.cells u a]) := by
 subst hn
 refine ⟨by simp [h.len], by simpa using ho, by simp [h.vl], fun v hv => ?_, fun i h1 h2 => ?_, fun x hx => ?_, fun b hb => (ho.lt b hb).2⟩
 ·rcases List.mem_append.1 hv with hv | hv
  ·exact h.row v hv
  ·rw [List.mem_singleton.1 hv]; rfl
 ·by_cases hlt : i < ms.length
  ·have e1 : (ms ++ [m])[i] = ms[i] := List.getElem_append_left hlt
   have e2 : (vss ++ [m.cells u a])[i] = vss[i]'(by have := h.len; have := h.vl; omega) := List.getElem_append_left _; rw [e1, e2]; exact (h.tell i hlt _).go hk
  ·obtain rfl : i = ms.length := by simp at h1; omega
   have e1 : (ms ++ [m])[ms.length]'h1 = m := by simp
   have e2 : (vss ++ [m.cells u a])[ms.length]'h2 = m.cells u a := by rw [List.getElem_append_right (by rw [h.vl, h.len]; exact l_ _)]; simp
   rw [e1, e2]; exact (hr.go hk).mono fun U hU => ⟨u, a, hU.1, hU.2, rfl⟩
 ·rcases List.mem_append.1 hx with hx | hx
  ·exact h.ok x hx
  ·rw [List.mem_singleton.1 hx]; exact hm
theorem p_3 (W : World) : e_q (W.alloc (.cells #[.string ⟨#[]⟩, .slice none 0 0, .slice none 0 0, .slice none 0 0, .slice none 0 0, .slice none 0 0, .slice none 0 0, .slice none 0 0] 36)) W.heap.size :=
 ⟨⟨[], [], ⟨[], [], [], [], [], []⟩⟩, (none, 0), ⟨(none, 0), (none, 0), (none, 0), (none, 0), (none, 0), (none, 0)⟩, heap_alloc_new _ _, ⟨⟨s_, by constructor <;> simp⟩, ⟨s_, by constructor <;> simp⟩⟩, fun V _ => ⟨⟨.inl rfl, l_ _⟩, ⟨.inl rfl, .inl rfl, .inl rfl, .inl rfl, .inl rfl, .inl rfl⟩⟩⟩
theorem l_U {x : Int} (h0 : 0 ≤ x) (h1 : x ≤ 131072) : 0 ≤ bits .or .i64 x 31 := by
 have e : bits .or .i64 x 31 = IntKind.i64.wrap (((BitVec.ofInt 64 x ||| BitVec.ofInt 64 31).toNat : Nat) : Int) := rfl
 have hx : (BitVec.ofInt 64 x).toNat = x.toNat := by simp only [BitVec.toNat_ofInt]; omega
 have h31 : (BitVec.ofInt 64 (31 : Int)).toNat = 31 := by decide
 have hl : x.toNat ||| 31 < 2 ^ 18 := Nat.or_lt_two_pow o_ o_
 rw [e, BitVec.toNat_or, hx, h31, IntWalk.i64_in _ o_]
 omega
theorem i_x {W : World} {g : Nat} (h : e_q W g) {ls : List a_3} {p : Pl} (hl : ls.length ≤ 64) (hs : a_B XB (fun V => b_9 V p ls) W) : e_q (W.setCell ⟨g, 1, none⟩ (slV p ls.length)) g ∧ KeepX XB W (W.setCell ⟨g, 1, none⟩ (slV p ls.length)) := by
 obtain ⟨m, u, a, h1, ⟨h2, h3⟩, h4⟩ := h
 have hk : KeepX XB W (W.setCell ⟨g, 1, none⟩ (slV p ls.length)) := KeepX.set fun o ho => by rw [h1] at ho; exact ⟨_, _, .inr (Option.some.inj ho).symm⟩
 refine ⟨⟨{ m with uses := ls }, p, a, ?_, ⟨{ h2 with uses := by show ls.length ≤ _; omega }, { h3 with u := hl }⟩, (hs.and (h4.mono fun V h => h.2)).go hk⟩, hk⟩
 rw [a_t h1]
 rfl
theorem k_c {W : World} {g : Nat} (h : e_q W g) (j : Nat) (hj : j < 8) : ∃ v, W.cell? ⟨g, j, none⟩ = some v ∧ W.frozen? ⟨g, j, none⟩ = false := by
 obtain ⟨m, u, a, h1, _⟩ := h
 exact ⟨(m.cells u a)[j], by rw [a_0 h1]; simp [hj], a_C h1 j⟩
theorem m_A {W : World} {g : Nat} (h : e_q W g) : g < W.heap.size := by
 obtain ⟨m, u, a, h1, _⟩ := h
 exact a_6 h1
theorem j_P {W V : World} {B k d : Nat} {A : Option Addr} {xs : List Value} (ho : W.ownsRow B 36 8 (.slice A k d) k xs) (hg : W.grownBy V (Value.slice A k d).ownBlock) : KeepX XB W V := by
 refine ⟨hg.size, fun b o hb hx => ?_⟩
 rw [hg.block b (a_6 hb)]
 ·exact hb
 ·intro e
  rcases ho.2 with ⟨hn, hz⟩ | ⟨g, cap, cur, hA, _, hh, _⟩
  ·rw [hn] at e; cases e
  ·rw [hA] at e
   obtain rfl : b = g := Option.some.inj e; rw [hh] at hb; exact hx ⟨_, _, .inr (Option.some.inj hb).symm⟩
theorem b_E {W : World} {g : Nat} {vs : List Value} {t : TypeId} (h : W.heap[g]? = some (.cells vs.toArray t)) : ∀ (j : Nat) (u : Value), vs[j]? = some u → W.cell? ((⟨g, 0, none⟩ : Addr).add j) = some u := fun j u hu => i_h h _ rfl j u hu
set_option maxRecDepth 100000
theorem f_L (hNode : d_B) (A : Option Addr) (c : Nat) (l : List Int) (w : World) (hl : i_I w (A, c) l) :
  Calls prog 8 #[.slice A l.length c] w fun e w' => (∃ (B : Option Addr) (d : Nat) (ms : List Mdu), e = .returned (.slice B ms.length d) ∧ ms.length ≤ d ∧ c_b w' B ms ∧ (∀ m ∈ ms, m.ok ∧ m.sm 64) ∧ ms.length ≤ 3) ∧ Below w.heap.size w w' := by
 have HA := a_2 (fun (i : Int) (W : World) (hb : Below w.heap.size w W) => (e_r A l i W c (hl.1.below hb)).mono (R' := fun e w' => (∃ n : Int, e = .returned (.int .i64 n) ∧ 0 ≤ n ∧ n ≤ 131072) ∧ Below W.heap.size W w') fun e w' ⟨he, m, hm⟩ => ⟨⟨_, he, k_z l i, m_W l i⟩, by rw [hm]; exact a_4 (b_ _ _) _⟩)
 have HT := a_2 (fun (i : Int) (W : World) (h0 : 0 ≤ i) (h1 : i ≤ 1000) (hb : Below w.heap.size w W) => (h_S A c l i W (hl.below hb) h0 h1).mono (R' := fun e w' => (∃ (B : Option Addr) (d : Nat) (m : List Int), e = .returned (.slice B m.length d) ∧ b_R w B m) ∧ w' = W) fun e w' ⟨⟨B, d, m, he, hi⟩, hw⟩ => ⟨⟨B, d, m, he, (hi w hl).1⟩, hw⟩)
 have HD := a_2 (fun (B : Option Addr) (d : Nat) (m : List Int) (n : Int) (W : World) (hb : Below w.heap.size w W) (hi : b_R w B m) => h_D hNode B d m n W (hi.below hb))
 obtain ⟨i0, hi, hz0, hz1, hz2⟩ := info_parts Tryz.info_mdu
 clear hl hNode
 go_enter func8, ntmps8
 go_wp2_with fail
 refine (HA.out _ _ (b_ _ _)).mono ?_
 rintro e w0 ⟨⟨n0, rfl, p1, p2⟩, hb0⟩
 obtain ⟨q, hq, hq3⟩ : ∃ q : Nat, n0.tmod 3 = (q : Int) ∧ q < 3 := by
  rw [Int.tmod_eq_emod_of_nonneg p1]; exact ⟨(n0 % 3).toNat, o_, o_⟩
 clear p1 p2
 go_wp2_with fail
 go_loopw [4, 5] (fun s4 s5 wr => ∃ (k : Nat) (B : Option Addr) (d : Nat), s4 = .slice B k d ∧ s5 = .int .i64 (k : Int) ∧ k ≤ q + 1 ∧ Hid (∃ ms vss, MRow w.heap.size wr.heap.size wr B k d ms vss) ∧ Below w.heap.size w wr) (fun _ s5 _ => 5 - (intOf s5).toNat)
 case atStart => exact ⟨0, none, 0, rfl, rfl, o_, a_2 ⟨[], [], ⟨rfl, World.ownsRow_nil _ _ _ _, rfl, fun v h => (List.not_mem_nil h).elim, fun i h => (Nat.not_lt_zero _ h).elim, fun m h => (List.not_mem_nil h).elim, fun b h => by cases h⟩⟩, hb0⟩
 case round =>
  obtain ⟨k, B, d, rfl, rfl, hk, HM, hr⟩ := hrel
  obtain ⟨ms, vss, hM⟩ := HM.out
  clear HM hb0
  by_cases hlt : k < q + 1
  ·have hw1 := IntWalk.i64_in (1 + (k : Int)) o_
   have hw2 := IntWalk.i64_in (1 + (q : Int)) o_; have hlt2 : (k : Int) < 1 + (q : Int) := by omega
   go_wp2_with fail
   refine (HA.out _ _ hr).mono ?_; rintro e w1 ⟨⟨x, rfl, p1, p2⟩, hb1⟩; replace hM := hM.go (l_ _) hb1 (KeepX.of hb1); have hT := hb1.size; replace hr := a_9 hb1 hr; generalize wr.heap.size = T at *; clear hb1 wr
   go_upto_region 7 with fail
   go_cut [27] from 21 to 60 (fun s27 wx => (∃ z : Bool, s27 = .bool z) ∧ wx = w1)
   case first =>
    clear HA HT HD hM
    go_wp2_with fail
    all_goals
     go_meet
     exact ⟨⟨_, rfl⟩, rfl⟩
   case rest =>
   obtain ⟨⟨z, rfl⟩, hw⟩ := hcut; subst hw
   go_upto_if 27 with fail
   go_cut [6] from 28 to 60 (fun s6 wx => (∃ y : Int, s6 = .int .i64 y ∧ 0 ≤ y) ∧ wx = wc)
   case first =>
    clear HA HT HD hM; have ho := l_U p1 p2
    cases z
    ·go_wp2_with fail
     go_meet
     exact ⟨⟨_, rfl, p1⟩, rfl⟩
    ·go_wp2_with fail
     go_meet
     exact ⟨⟨_, rfl, ho⟩, rfl⟩
   case rest =>
   clear p1 p2; obtain ⟨⟨y, rfl, p1⟩, hw⟩ := hcut; subst hw
   rename World => W0
   go_upto_region 9 with fail
   refine b_a (H := HM) (C := fun _ W => Below W0.heap.size W0 W) (R := fun i => match i with
    | 0 => vS [ [99, 111, 114, 101], [115, 97, 108, 101, 115], [98, 97, 115, 101]]
    | 1 => vC (.int .i64 (k : Int))
    | 2 => vP [ [99, 111, 114, 101], [115, 97, 108, 101, 115], [98, 97, 115, 101]]
    | 3 => vT [ [99, 111, 114, 101], [115, 97, 108, 101, 115], [98, 97, 115, 101]]
    | 4 => vC (.slice A l.length c)
    | 5 => vC (.int .i64 (k : Int))
    | 6 => vI 4 6
    | 7 => (fun _ v => ∃ (B : Option Addr) (d : Nat) (m : List Int), v = .slice B m.length d ∧ b_R w B m)
    | 8 => vC (.int .i64 y)
    | 9 => vD
    | 10 => vM
    | 11 => (fun W v => ∃ g, v = .pointer (some ⟨g, 0, none⟩) ∧ W0.heap.size ≤ g ∧ e_q W g)
    | _ => fun _ _ => True) (fun _ _ _ _ _ h k => ⟨h.1.trans k.1, fun b hb => k.2 b (h.2 b hb)⟩) rfl k_ ?hc0 (c_a.all ?hop) ?hend
   case' hop => refine ⟨?o0, ?o1, ?o2, ?o3, ?o4, ?o5, ?o6, ?o7, ?o8, ?o9, ?o10, ?o11, ?o12, trivial⟩
   case o0 =>
    exact g_L (b_Z (w := W0)) (⟨d_, d_⟩) _ (fun _ _ => by first | (go_simp; done) | (go_simp; rfl)) rfl
   case o1 =>
    exact c_H (b_Z (w := W0)) 5 rfl k_ (fun _ => rfl)
   case o2 =>
    exact b_V (b_Z (w := W0)) (⟨d_, d_⟩) _ 0 30 1 31 rfl k_ k_ rfl rfl rfl (fun _ _ h => e_n ⟨o_, by show (k : Int) ≤ 2; omega⟩ _ _ h) rfl
   case o3 =>
    exact c_u (b_Z (w := W0)) _ 2 32 rfl k_ rfl rfl rfl
   case o4 =>
    exact c_H (b_Z (w := W0)) 0 rfl k_ (fun _ => rfl)
   case o5 =>
    exact c_H (b_Z (w := W0)) 5 rfl k_ (fun _ => rfl)
   case o6 =>
    exact d_5 (b_Z (w := W0)) (lo := 0) (hi := 2) (fun n => 4 + n) 5 35 (fun a w n e n0 n1 => by have hw := IntWalk.i64_in (4 + n) o_; go_simp) (fun n n0 n1 => ⟨o_, o_⟩) k_ rfl (fun _ _ h => e_n ⟨o_, o_⟩ _ _ h) rfl
   case o7 =>
    refine a_s (b_Z (w := W0)) fun L a W hf hc hL hn ht => ?_; have e1 : a.tmps.getD 34 undef = (.slice A l.length c) := ht 4 k_ 34 rfl W ((b_Z (w := W0)).refl L _); obtain ⟨n1, e2, p1, p2⟩ := ht 6 k_ 36 rfl W ((b_Z (w := W0)).refl L _); refine a_e.veil fun K hK => ?_; unfold a_e
    go_simp
    refine (HT.out _ _ o_ o_ (a_9 hc hr)).mono ?_; rintro e w1 ⟨⟨B, d, m, rfl, hi⟩, rfl⟩; exact ⟨_, rfl, hK _ _ ⟨b_ _ _, fun V hV => ⟨B, d, m, rfl, hi⟩⟩⟩
   case o8 =>
    exact c_H (b_Z (w := W0)) 6 rfl k_ (fun _ => rfl)
   case o9 =>
    refine a_s (b_Z (w := W0)) fun L a W hf hc hL hn ht => ?_; obtain ⟨B, d, m, e1, hi⟩ := ht 7 k_ 37 rfl W ((b_Z (w := W0)).refl L _); have e2 : a.tmps.getD 38 undef = (.int .i64 y) := ht 8 k_ 38 rfl W ((b_Z (w := W0)).refl L _); refine a_e.veil fun K hK => ?_; unfold a_e
    go_simp
    refine (HD.out _ _ _ _ _ (a_9 hc hr) hi).mono ?_; rintro e w1 ⟨⟨d, a, rfl, q1, q2⟩, hb1⟩; exact ⟨_, rfl, hK _ _ ⟨hb1, fun V hV => ⟨d, a, rfl, q1, q2.go hV.1⟩⟩⟩
   case o10 =>
    refine a_s (b_Z (w := W0)) fun L a W hf hc hL hn ht => ?_; obtain ⟨s, hs, e1⟩ := ht 3 k_ 33 rfl W ((b_Z (w := W0)).refl L _); obtain ⟨d, a', e2, ⟨q1, q2⟩, q3⟩ := ht 9 k_ 39 rfl W ((b_Z (w := W0)).refl L _); have e1q := e1; have e2q := e2; simp only [Array.getD_eq_getD_getElem?] at e1q e2q; have hs2 := d_g hs (by simp [maxLen]); refine a_e.veil fun K hK => ?_; unfold a_e
    go_simp
    exact hK _ _ ⟨b_ _ _, fun V hV => ⟨⟨s, [], d⟩, (none, 0), a', rfl, ⟨⟨s_, q1⟩, ⟨s_, q2⟩⟩, (b_n.and q3).go hV.1⟩⟩
   case o11 =>
    refine a_s (b_Z (w := W0)) fun L a W hf hc hL hn ht => ?_; refine a_e.veil fun K hK => ?_; unfold a_e
    go_simp
    exact hK _ _ ⟨(b_ _ _).alloc (l_ _) _, fun V hV => ⟨_, rfl, hc.size, hV.2 _ (p_3 W)⟩⟩
   case o12 =>
    intro L a W hf hc hL hn ht; obtain ⟨m, u, a', e1, q1, q2⟩ := (ht 10 k_).2 40 rfl W ((b_Z (w := W0)).refl L _); obtain ⟨g, e2, hg, hm⟩ := (ht 11 k_).2 7 rfl W ((b_Z (w := W0)).refl L _); obtain ⟨_, _, _, hz, _⟩ := id hm; have hz2 := a_0 hz; have hz3 := a_C hz; have z0 := hz2 0; simp at z0; have z1 := hz2 1; simp at z1; have z2 := hz2 2; simp at z2; have z3 := hz2 3; simp at z3; have z4 := hz2 4; simp at z4; have z5 := hz2 5; simp at z5; have z6 := hz2 6; simp at z6; have z7 := hz2 7; simp at z7; clear hz hz2; refine a_e.veil fun K hK => ?_; unfold a_e
    go_simp
    exact hK _ _ ⟨(i_D hm q1 q2 rfl).2 _ _ hc hg, (i_D hm q1 q2 rfl).1, fun h => by cases h⟩
   case hc0 => exact Below.drew (b_ _ _)
   case hend =>
    intro V W1 L hbW _ hV; obtain ⟨g, e7, hg0, hmg⟩ := hV 11 7 rfl W1 ⟨KeepX.refl _ _, fun _ h => h⟩; replace hM := hM.go hT (hbW.mono hT) (KeepX.of hbW); have hwg := Nat.le_trans hr.size hg0; replace hr := a_9 hbW hr; have hTg : T ≤ g := Nat.le_trans hT hg0; have hTW := Nat.le_trans hT hbW.size; clear hV hbW hT hg0; simp only [c_V, List.setIfInBounds_toArray, List.set_cons_zero, List.set_cons_succ, e7]; clear e7
    go_upto_region 10 with fail
    go_cut [48] from 41 to 60 (fun s48 wx => (∃ z : Bool, s48 = .bool z ∧ (z = true → 0 < k)) ∧ wx = W1)
    case first =>
     clear HA HT HD hM hmg
     by_cases h0 : k = 0
     ·subst h0
      go_wp2_with fail
      all_goals
       go_meet
       exact ⟨⟨_, rfl, s_⟩, rfl⟩
     ·have hk0 : (0 : Int) < (k : Int) := by omega
      go_wp2_with fail
      all_goals
       go_meet
       exact ⟨⟨_, rfl, fun _ => by omega⟩, rfl⟩
    case rest =>
    obtain ⟨⟨z, rfl, hzk⟩, hw⟩ := hcut; subst hw
    go_upto_if 48 with fail
    go_cut [] from 49 to 60 (fun wx => e_q wx g ∧ MRow w.heap.size T wx B k d ms vss ∧ Below w.heap.size w wx)
    case first =>
     clear HA HT HD
     cases z
     ·go_wp2_with fail
      go_meet
      exact ⟨hmg, hM, hr⟩
     have hk0 := hzk rfl
     have hj : y / 256 % (k : Int) = 0 ∨ y / 256 % (k : Int) = 1 := by
      have h1 := Int.emod_nonneg (y / 256) (show (k : Int) ≠ 0 by omega); have h2 := Int.emod_lt_of_pos (y / 256) (show (0 : Int) < (k : Int) by omega)
      omega
     have hk1 : (0 : Int) < (k : Int) := by omega
     have hyq : 0 ≤ y / 256 := by omega
     obtain ⟨_, f1, f2⟩ := k_c hmg 1 d_; have l0 := m_A hmg; obtain ⟨l1, _, _⟩ := e_g l0
     rcases hj with hj | hj
     ·go_wp2_with fail
      go_meet
      rw [l_V l0]; refine _al ?_; intro hb4
      obtain ⟨u1, u2⟩ := i_x (hmg.go hb4) (p := (some ⟨wc.heap.size, 0, none⟩, 2)) (ls := [ [99, 111, 114, 101]]) s_ (a_B.blk (heap_alloc_new _ _) (nXB d_ d_) fun V hv => ⟨.inr ⟨_, 0, rfl, a_6 hv, fun j hj => by
       rw [Nat.zero_add, a_0 hv]
       match j, hj with
       | 0, _ => rfl⟩, s_⟩)
      exact s_r
     ·go_wp2_with fail
      go_meet
      rw [l_V l0]; refine _al ?_; intro hb4
      obtain ⟨u1, u2⟩ := i_x (hmg.go hb4) (p := (some ⟨wc.heap.size, 0, none⟩, 2)) (ls := [ [99, 111, 114, 101], [115, 97, 108, 101, 115]]) s_ (a_B.blk (heap_alloc_new _ _) (nXB d_ d_) fun V hv => ⟨.inr ⟨_, 0, rfl, a_6 hv, fun j hj => by
       rw [Nat.zero_add, a_0 hv]
       match j, hj with
       | 0, _ => rfl
       | 1, _ => rfl⟩, s_⟩)
      exact s_r
    case rest =>
    clear hM hr hmg; obtain ⟨hmg, hM, hr⟩ := hcut; obtain ⟨m, u, a, hzz, hmk, hmr⟩ := hmg; have hz2 := a_0 hzz; have z0 := hz2 0; have z1 := hz2 1; have z2 := hz2 2; have z3 := hz2 3; have z4 := hz2 4; have z5 := hz2 5; have z6 := hz2 6; have z7 := hz2 7
    simp at z0 z1 z2 z3 z4 z5 z6 z7
    clear hz2 hzz; have HO := a_2 hM.own; have hrs := hr.size
    go_wp2_with (at_builtin; refine wpList_append_own _ rfl _ _ 22 rfl w.heap.size 36 i0 _ 8 184 underlying22 hi hz0 hz1 hz2 rfl d_ _ _ _ rfl (HO.out.alloc _) ⟨wc.heap.size, 0, none⟩ 1 1 (m.cells u a) rfl rfl (by exact b_E (heap_alloc_new _ _)) (by simp [Mdu.cells, Dfs.cells, Value.oneCell']) x_ o_ m_ ?_; intro v' w3 hown3 hgrow _)
    obtain ⟨A3, c3, rfl⟩ := a_j hown3; have hb5 : Below wc.heap.size wc (wc.alloc (.cells (m.cells u a).toArray 36)) := (b_ _ _).alloc (l_ _) _; have hb3 : Below w.heap.size w w3 := (a_9 hb5 hr).grown hgrow m_ (fun b hb => (HO.out.lt b hb).1); have hk3 := (KeepX.of (X := XB) hb5).trans (j_P (HO.out.alloc _) hgrow); have hwk := IntWalk.i64_in ((k : Int) + 1) o_
    go_wp2_with fail
    exact ⟨⟨k + 1, A3, c3, rfl, s_, o_, a_2 ⟨_, _, hM.push hmk hmr hk3 rfl hown3 o_⟩, hb3⟩, w_⟩
  ·obtain rfl : k = q + 1 := by omega
   have hlt2 : ¬ ((q : Int) + 1 < 1 + (q : Int)) := by omega
   have hw2 := IntWalk.i64_in (1 + (q : Int)) o_; have HO := a_2 hM; clear hM
   go_wp2_with fail
   go_ret
   have hl := HO.out.len; exact ⟨⟨B, d, ms, by rw [hl]; rfl, by rw [hl]; exact (c_L HO.out.own).1, a_x ⟨by have := HO.out.vl; omega, HO.out.row, fun i h h' => (HO.out.tell i h h').now⟩ (by rw [hl]; exact HO.out.own), HO.out.ok, o_⟩, hr⟩
set_option maxRecDepth 512
structure Came (w0 : World) (b : Nat) (ms : List Mdu) (vss : List (List Value)) : Prop where
 rows : RowsIn 8 f_g w0 ms vss
 ok : ∀ m ∈ ms, m.ok ∧ m.sm b
structure Stage (w0 : World) (ms : List Mdu) (vss : List (List Value)) (g c : Nat) (W : World) : Prop where
 own : W.ownsRow w0.heap.size 36 8 (.slice (some ⟨g, 0, none⟩) ms.length c) ms.length vss.flatten
 bel : Below w0.heap.size w0 W
def c_P (w0 : World) (b n g c : Nat) (W : World) : Prop := ∃ (ms : List Mdu) (vss : List (List Value)), ms.length = n ∧ W.ownsRow w0.heap.size 36 8 (.slice (some ⟨g, 0, none⟩) n c) n vss.flatten ∧ RowsIn 8 f_g W ms vss ∧ (∀ m ∈ ms, m.ok ∧ m.sm (b + 1)) ∧ Below w0.heap.size w0 W
theorem Stage.go {w0 W V : World} {ms : List Mdu} {vss : List (List Value)} {g c : Nat} (h : Stage w0 ms vss g c W) (hb : Below W.heap.size W V) : Stage w0 ms vss g c V := ⟨a_g h.own hb, h.bel.trans (hb.mono h.bel.size)⟩
theorem c_P.go {w0 W V : World} {b n g c : Nat} (h : c_P w0 b n g c W) (hb : Below W.heap.size W V) : c_P w0 b n g c V := by
 obtain ⟨ms, vss, h1, h2, h3, h4, h5⟩ := h
 exact ⟨ms, vss, h1, a_g h2 hb, h3.below f_g.kept hb, h4, h5.trans (hb.mono h5.size)⟩
theorem Stage.gat {w0 W : World} {ms : List Mdu} {vss : List (List Value)} {g c : Nat} (h : Stage w0 ms vss g c W) : w0.heap.size ≤ g ∧ g < W.heap.size := h.own.lt g rfl
theorem Stage.cell {w0 W : World} {b : Nat} {ms : List Mdu} {vss : List (List Value)} {g c : Nat} (h : Stage w0 ms vss g c W) (hC : Came w0 b ms vss) {i : Nat} (hi : i < ms.length) {m : Mdu} {u : Pl} {a : DAdr} (hm : vss[i]? = some (m.cells u a)) (f : Nat) (hf : f < 8) :
  W.cell? ⟨g, i * 8 + f, none⟩ = (m.cells u a)[f]? ∧ W.frozen? ⟨g, i * 8 + f, none⟩ = false := by
 have hv : i < vss.length := by rw [hC.rows.len]; exact hi
 refine ⟨?_, h.own.frozenAt _⟩
 rw [h.own.cellAt (i * 8 + f) o_, h_N vss hC.rows.row i hv f hf]
 rw [List.getElem?_eq_getElem hv] at hm
 rw [Option.some.inj hm]
theorem d_t {k : Nat} {m : Mdu} (h : m.sm k) : m.sm (k + 1) :=
 ⟨by have := h.u; omega, by have := h.d.z; omega, by have := h.d.s; omega, by have := h.d.m; omega, by have := h.d.d; omega, by have := h.d.n; omega, by have := h.d.c; omega, fun x hx => by have := h.d.q x hx; omega⟩
theorem c_g {w0 W : World} {b : Nat} {ms : List Mdu} {vss : List (List Value)} {g c : Nat} (h : Stage w0 ms vss g c W) (hC : Came w0 b ms vss) {i : Nat} (hi : i < ms.length) {m m' : Mdu} {u : Pl} {a : DAdr} (hm : vss[i]? = some (m.cells u a)) (f : Nat) (hf : f < 8) (v : Value)
  (hx : f_g (W.setCell ⟨g, i * 8 + f, none⟩ v) m' ((m.cells u a).set f v)) (hk : m'.ok ∧ m'.sm (b + 1)) : c_P w0 b ms.length g c (W.setCell ⟨g, i * 8 + f, none⟩ v) := by
 have hv : i < vss.length := by rw [hC.rows.len]; exact hi
 have e : vss[i] = m.cells u a := by rw [List.getElem?_eq_getElem hv] at hm; exact Option.some.inj hm
 have hb : Below w0.heap.size w0 (W.setCell ⟨g, i * 8 + f, none⟩ v) := h.bel.setCell h.gat.1 _
 have ho := (h.own.stored (i * 8 + f) v).1
 rw [j_i d_ vss hC.rows.row i hv f v hf, e] at ho
 refine ⟨ms.set i m', vss.set i ((m.cells u a).set f v), s_, ho, (hC.rows.below f_g.kept hb).set i s_ hx, fun x hx => ?_, hb⟩
 rcases List.mem_or_eq_of_mem_set hx with hx | rfl
 ·exact ⟨(hC.ok x hx).1, d_t (hC.ok x hx).2⟩
 ·exact hk
structure Row1 (w0 : World) (b : Nat) (vss : List (List Value)) (i : Nat) (m : Mdu) (u : Pl) (a : DAdr) : Prop where
 at_ : vss[i]? = some (m.cells u a)
 use : b_9 w0 u m.uses
 sl : m.defs.Sl w0 a
 ok : m.ok ∧ m.sm b
variable {w0 W : World} {b : Nat} {ms : List Mdu} {vss : List (List Value)} {g c i : Nat} {m : Mdu} {u : Pl} {a : DAdr}
theorem f_i (hS : Stage w0 ms vss g c W) (hC : Came w0 b ms vss) : c_P w0 b ms.length g c W :=
 ⟨ms, vss, rfl, hS.own, hC.rows.below f_g.kept hS.bel, fun x hx => ⟨(hC.ok x hx).1, d_t (hC.ok x hx).2⟩, hS.bel⟩
theorem Stage.but {V : World} {g2 : Nat} (hS : Stage w0 ms vss g c W) (hb : But g2 W V) (hB : Below w0.heap.size w0 V) (hg : g < g2) : Stage w0 ms vss g c V := by
 refine ⟨⟨hS.own.1, ?_⟩, hB⟩
 rcases hS.own.2 with ⟨hn, hz⟩ | ⟨g', cap, cur, hA, hg', hh, hr⟩
 ·exact .inl ⟨hn, hz⟩
 ·injection hA with h1 h2 h3
  obtain rfl : g = g' := by injection h1 with h1; injection h1
  exact .inr ⟨g, cap, cur, by rw [h3], hg', hb.old hh o_, hr⟩
theorem n_q (hS : Stage w0 ms vss g c W) (hC : Came w0 b ms vss) (hi : i < ms.length) (hR : Row1 w0 b vss i m u a) (nm : a_3) (o : Obj) : c_P w0 b ms.length g c ((W.setCell ⟨g, i * 8, none⟩ (str nm)).alloc o) := by
 have hb : Below w0.heap.size w0 (W.setCell ⟨g, i * 8, none⟩ (str nm)) := hS.bel.setCell hS.gat.1 _
 exact (c_g hS hC hi hR.at_ 0 d_ (str nm) (m' := { m with name := nm }) ⟨u, a, hR.use.below hb, hR.sl.below hb, rfl⟩ ⟨⟨hR.ok.1.uses, hR.ok.1.defs⟩, ⟨(d_t hR.ok.2).u, (d_t hR.ok.2).d⟩⟩).go ((b_ _ _).alloc (l_ _) _)
theorem n_M (hS : Stage w0 ms vss g c W) (hC : Came w0 b ms vss) (hi : i < ms.length) (hR : Row1 w0 b vss i m u a) (hbb : b ≤ 200) {A : Option Addr} {d : Nat} {xs : List a_3} (hx : b_9 (W.setCell ⟨g, i * 8 + 1, none⟩ (.slice A xs.length d)) (A, d) xs) (hn : xs.length ≤ b + 1) : c_P w0 b ms.length g c (W.setCell ⟨g, i * 8 + 1, none⟩ (.slice A xs.length d)) := by
 have hb : Below w0.heap.size w0 (W.setCell ⟨g, i * 8 + 1, none⟩ (.slice A xs.length d)) := hS.bel.setCell hS.gat.1 _
 exact c_g hS hC hi hR.at_ 1 d_ _ (m' := { m with uses := xs }) ⟨(A, d), a, hx, hR.sl.below hb, rfl⟩ ⟨⟨by show xs.length ≤ _; omega, hR.ok.1.defs⟩, ⟨hn, (d_t hR.ok.2).d⟩⟩
theorem s_Y (hS : Stage w0 ms vss g c W) (hC : Came w0 b ms vss) (hi : i < ms.length) (hR : Row1 w0 b vss i m u a) (hbb : b ≤ 200) {A : Option Addr} {d : Nat} {xs : List Zon} (hx : a_l 3 g_a (W.setCell ⟨g, i * 8 + 2, none⟩ (.slice A xs.length d)) A xs) (hk : ∀ x ∈ xs, x.name.length ≤ maxLen ∧ x.sh.length ≤ 8796093022208) (hn : xs.length ≤ b + 1) : c_P w0 b ms.length g c (W.setCell ⟨g, i * 8 + 2, none⟩ (.slice A xs.length d)) := by
 have hb : Below w0.heap.size w0 (W.setCell ⟨g, i * 8 + 2, none⟩ (.slice A xs.length d)) := hS.bel.setCell hS.gat.1 _
 exact c_g hS hC hi hR.at_ 2 d_ _ (m' := { m with defs := { m.defs with zones := xs } }) ⟨u, { a with z := (A, d) }, hR.use.below hb, { hR.sl.below hb with hz := hx }, rfl⟩ ⟨⟨hR.ok.1.uses, { hR.ok.1.defs with zone := hk, lz := by show xs.length ≤ _; omega }⟩, ⟨(d_t hR.ok.2).u, { (d_t hR.ok.2).d with z := hn }⟩⟩
theorem r_B (hS : Stage w0 ms vss g c W) (hC : Came w0 b ms vss) (hi : i < ms.length) (hR : Row1 w0 b vss i m u a) (hbb : b ≤ 200) {A : Option Addr} {d : Nat} {xs : List Srx} (hx : a_l 7 h_f (W.setCell ⟨g, i * 8 + 3, none⟩ (.slice A xs.length d)) A xs) (hk : ∀ x ∈ xs, x.ok) (hn : xs.length ≤ b + 1) : c_P w0 b ms.length g c (W.setCell ⟨g, i * 8 + 3, none⟩ (.slice A xs.length d)) := by
 have hb : Below w0.heap.size w0 (W.setCell ⟨g, i * 8 + 3, none⟩ (.slice A xs.length d)) := hS.bel.setCell hS.gat.1 _
 exact c_g hS hC hi hR.at_ 3 d_ _ (m' := { m with defs := { m.defs with srcs := xs } }) ⟨u, { a with s := (A, d) }, hR.use.below hb, { hR.sl.below hb with hs := hx }, rfl⟩ ⟨⟨hR.ok.1.uses, { hR.ok.1.defs with src := hk, ls := by show xs.length ≤ _; omega }⟩, ⟨(d_t hR.ok.2).u, { (d_t hR.ok.2).d with s := hn }⟩⟩
theorem t_g (hS : Stage w0 ms vss g c W) (hC : Came w0 b ms vss) (hi : i < ms.length) (hR : Row1 w0 b vss i m u a) (hbb : b ≤ 200) {A : Option Addr} {d : Nat} {xs : List Mac} (hx : a_l 3 f_J (W.setCell ⟨g, i * 8 + 4, none⟩ (.slice A xs.length d)) A xs) (hk : ∀ x ∈ xs, x.ok) (hn : xs.length ≤ b + 1) : c_P w0 b ms.length g c (W.setCell ⟨g, i * 8 + 4, none⟩ (.slice A xs.length d)) := by
 have hb : Below w0.heap.size w0 (W.setCell ⟨g, i * 8 + 4, none⟩ (.slice A xs.length d)) := hS.bel.setCell hS.gat.1 _
 exact c_g hS hC hi hR.at_ 4 d_ _ (m' := { m with defs := { m.defs with macs := xs } }) ⟨u, { a with m := (A, d) }, hR.use.below hb, { hR.sl.below hb with hm := hx }, rfl⟩ ⟨⟨hR.ok.1.uses, { hR.ok.1.defs with mac := hk, lm := by show xs.length ≤ _; omega }⟩, ⟨(d_t hR.ok.2).u, { (d_t hR.ok.2).d with m := hn }⟩⟩
theorem q_f (hS : Stage w0 ms vss g c W) (hC : Came w0 b ms vss) (hi : i < ms.length) (hR : Row1 w0 b vss i m u a) (hbb : b ≤ 200) {A : Option Addr} {d : Nat} {xs : List Mdl} (hx : a_l 8 f_I (W.setCell ⟨g, i * 8 + 5, none⟩ (.slice A xs.length d)) A xs) (hk : ∀ x ∈ xs, x.ok) (hn : xs.length ≤ b + 1) (hq : ∀ x ∈ xs, x.query.length ≤ b + 1) : c_P w0 b ms.length g c (W.setCell ⟨g, i * 8 + 5, none⟩ (.slice A xs.length d)) := by
 have hb : Below w0.heap.size w0 (W.setCell ⟨g, i * 8 + 5, none⟩ (.slice A xs.length d)) := hS.bel.setCell hS.gat.1 _
 exact c_g hS hC hi hR.at_ 5 d_ _ (m' := { m with defs := { m.defs with mdls := xs } }) ⟨u, { a with d := (A, d) }, hR.use.below hb, { hR.sl.below hb with hd := hx }, rfl⟩ ⟨⟨hR.ok.1.uses, { hR.ok.1.defs with mdl := hk, ld := by show xs.length ≤ _; omega }⟩, ⟨(d_t hR.ok.2).u, { (d_t hR.ok.2).d with d := hn, q := hq }⟩⟩
theorem s_S (hS : Stage w0 ms vss g c W) (hC : Came w0 b ms vss) (hi : i < ms.length) (hR : Row1 w0 b vss i m u a) (hbb : b ≤ 200) {A : Option Addr} {d : Nat} {xs : List Snp} (hx : a_l 2 i_i (W.setCell ⟨g, i * 8 + 6, none⟩ (.slice A xs.length d)) A xs) (hk : ∀ x ∈ xs, x.ok) (hn : xs.length ≤ b + 1) : c_P w0 b ms.length g c (W.setCell ⟨g, i * 8 + 6, none⟩ (.slice A xs.length d)) := by
 have hb : Below w0.heap.size w0 (W.setCell ⟨g, i * 8 + 6, none⟩ (.slice A xs.length d)) := hS.bel.setCell hS.gat.1 _
 exact c_g hS hC hi hR.at_ 6 d_ _ (m' := { m with defs := { m.defs with snps := xs } }) ⟨u, { a with n := (A, d) }, hR.use.below hb, { hR.sl.below hb with hn := hx }, rfl⟩ ⟨⟨hR.ok.1.uses, { hR.ok.1.defs with snp := hk, ln := by show xs.length ≤ _; omega }⟩, ⟨(d_t hR.ok.2).u, { (d_t hR.ok.2).d with n := hn }⟩⟩
theorem n_a (hS : Stage w0 ms vss g c W) (hC : Came w0 b ms vss) (hi : i < ms.length) (hR : Row1 w0 b vss i m u a) (hbb : b ≤ 200) {A : Option Addr} {d : Nat} {xs : List Chk} (hx : a_l 14 f_h (W.setCell ⟨g, i * 8 + 7, none⟩ (.slice A xs.length d)) A xs) (hk : ∀ x ∈ xs, x.ok) (hn : xs.length ≤ b + 1) : c_P w0 b ms.length g c (W.setCell ⟨g, i * 8 + 7, none⟩ (.slice A xs.length d)) := by
 have hb : Below w0.heap.size w0 (W.setCell ⟨g, i * 8 + 7, none⟩ (.slice A xs.length d)) := hS.bel.setCell hS.gat.1 _
 exact c_g hS hC hi hR.at_ 7 d_ _ (m' := { m with defs := { m.defs with chks := xs } }) ⟨u, { a with c := (A, d) }, hR.use.below hb, { hR.sl.below hb with hc := hx }, rfl⟩ ⟨⟨hR.ok.1.uses, { hR.ok.1.defs with chk := hk, lc := by show xs.length ≤ _; omega }⟩, ⟨(d_t hR.ok.2).u, { (d_t hR.ok.2).d with c := hn }⟩⟩
theorem c_F {B e k n d g2 : Nat} {v r : List Value} (h : W.ownsRow B e k (.slice (some ⟨g2, 0, none⟩) n d) n (v ++ r)) : ∃ sp : List Value, W.heap[g2]? = some (.cells (v ++ (r ++ sp)).toArray e) ∧ B ≤ g2 ∧ ∀ (V : World) (v' : List Value), v'.length = v.length → V.heap[g2]? = some (.cells (v' ++ (r ++ sp)).toArray e) → V.ownsRow B e k (.slice (some ⟨g2, 0, none⟩) n d) n (v' ++ r) := by
 obtain ⟨hl, h2⟩ := h
 rcases h2 with ⟨hn, _⟩ | ⟨g', cap, cur, hA, hg', hh, hnc, hcap, hsz, htk⟩
 ·cases hn
 ·injection hA with h1 h2 h3
  obtain rfl : g2 = g' := by injection h1 with h1; injection h1
  subst h3
  refine ⟨cur.toList.drop (n * k), ?_, hg', fun V v' hv' hV => ⟨by simp at hl ⊢; omega, .inr ⟨g2, d, _, rfl, hg', hV, hnc, hcap, ?_, ?_⟩⟩⟩
  ·rw [hh, ← List.append_assoc, ← htk, List.take_append_drop]
  ·have h5 : (cur.toList.drop (n * k)).length = cur.size - n * k := by simp
   have h6 : n * k ≤ cur.size := by rw [hsz]; exact Nat.mul_le_mul_right _ hnc
   simp at hl ⊢
   omega
  ·rw [← List.append_assoc]
   simp at hl
   rw [List.toList_toArray, List.take_append_of_le_length m_, List.take_of_length_le m_]
theorem Stage.keep (hS : Stage w0 ms vss g c W) (j : Nat) (v : Value) : KeepX XB W (W.setCell ⟨g, j, none⟩ v) := KeepX.set fun o h => by
 rcases hS.own.2 with ⟨hn, _⟩ | ⟨g', cap, cur, hA, _, hh, _⟩
 ·cases hn
 ·injection hA with h1 _ _
  obtain rfl : g = g' := by injection h1 with h1; injection h1
  rw [hh] at h
  exact ⟨_, _, .inr (Option.some.inj h).symm⟩
theorem Stage.up {V : World} (hS : Stage w0 ms vss g c W) (hb : Below (g + 1) W V) : Stage w0 ms vss g c V := by
 refine ⟨⟨hS.own.1, ?_⟩, hS.bel.trans (hb.mono (Nat.le_succ_of_le hS.gat.1))⟩
 rcases hS.own.2 with ⟨hn, hz⟩ | ⟨g', cap, cur, hA, hg', hh, hr⟩
 ·exact .inl ⟨hn, hz⟩
 ·injection hA with h1 h2 h3
  obtain rfl : g = g' := by injection h1 with h1; injection h1
  exact .inr ⟨g, cap, cur, by rw [h3], hg', (hb.block g (Nat.lt_succ_self _)).trans hh, hr⟩
def CS (w0 : World) (b : Nat) (ms : List Mdu) (vss : List (List Value)) (g c z s : Nat) (L : Nat → Bool) (W : World) : Prop := (L z = false → Stage w0 ms vss g c W) ∧ (L s = false → Stage w0 ms vss g c W) ∧ (L s = true → c_P w0 b ms.length g c W)
theorem j_w (hC : Came w0 b ms vss) {z s : Nat} : Lull (fun _ => KeepX XB) (CS w0 b ms vss g c z s) (fun t => t ≠ 34 ∧ t ≠ 36) where
 refl := fun _ w => KeepX.refl _ w
 anti := fun _ _ _ _ h => h
 grow := fun _ _ _ h => KeepX.of h
 keep := fun _ _ _ g cs t ht h hg => h.block g _ hg (nXB ht.1 ht.2)
 next := fun i L w w' ⟨h1, h2, h3⟩ hb => by
  have up : ∀ j, e_b i L j = false → L j = false := fun j h => by simp [e_b] at h; exact h.2
  refine ⟨fun h => (h1 (up z h)).go hb, fun h => (h2 (up s h)).go hb, fun h => ?_⟩
  cases hs : L s with
  | true => exact (h3 hs).go hb
  | false => exact f_i ((h2 hs).go hb) hC
def vO (T : TypeId) (k n B : Nat) (xs : List Value) (W : World) (v : Value) : Prop := ∃ (A : Option Addr) (c : Nat), v = .slice A n c ∧ W.ownsRow B T k (.slice A n c) n xs
theorem f_4 {o : Oper} {a : Act} {w : World} {K : Value → World → Prop} (s x : Operand) (t : TypeId) (hop : o.op = Op.call { callee := Callee.builtin Builtin.append, args := #[s, x], argTypes := #[t, t] })
  (e : TypeId) (i : TypeInfo) (z : Value) (size bytes : Nat) (h1 : prog.underlying t = some (.slice e)) (h2 : prog.info? e = some i) (h3 : i.zero = some z) (h4 : i.size = size) (h5 : i.bytes = bytes) (h6 : z.cells.size = size) (h7 : 0 < size)
  (B : Nat) (v : Value) (n : Nat) (xs : List Value) (hs : a.eval s = v) (ho : w.ownsRow B e size v n xs) (g2 : Nat) (news : List Value) (hx : a.eval x = .slice (some ⟨g2, 0, none⟩) 1 1) (hm : news.length = 1 * size) {t2 : TypeId} (hg2 : w.heap[g2]? = some (.cells news.toArray t2)) (hone : ∀ u ∈ news, u.oneCell' = true)
  (b1 : n + 1 ≤ maxLen) (b2 : (n + 1) * bytes ≤ 140737488355328) (hB : B ≤ w.heap.size) (hK : ∀ v' w', w'.ownsRow B e size v' (n + 1) (xs ++ news) → w.grownBy w' v.ownBlock → K v' w') : a_e prog o a w K := by
 obtain ⟨v', w', hrun, r1, r2, _⟩ := run_append_own (P := prog) w B t o.type e i z size bytes h1 h2 h3 h4 h5 h6 h7 v n xs ho ⟨g2, 0, none⟩ 1 1 news hm (b_E hg2) hone b1 b2 hB
 refine a_e.val (v := v') (w' := w') ?_ (hK v' w' r1 r2)
 simp [execOp, hop, resolve, invoke, builtin, hs, hx, hrun, Result.andThen]
end Go.Proofs.YtnpjibaolicbmaaGreatDoor
