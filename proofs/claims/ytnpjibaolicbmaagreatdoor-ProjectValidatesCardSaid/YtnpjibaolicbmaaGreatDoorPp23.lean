/- Parts of the proof. -/
import Derived.Test.YtnpjibaolicbmaaGreatDoorPp22
set_option linter.unusedVariables false
set_option linter.unusedSimpArgs false
set_option maxHeartbeats 16000000
namespace Go.Proofs.YtnpjibaolicbmaaGreatDoor
open Go.Proofs.Tryz
open Go.RowKit
structure Dfs.sm (k : Nat) (D : Dfs) : Prop where
 z : D.zones.length ≤ k
 s : D.srcs.length ≤ k
 m : D.macs.length ≤ k
 d : D.mdls.length ≤ k
 n : D.snps.length ≤ k
 c : D.chks.length ≤ k
 q : ∀ x ∈ D.mdls, x.query.length ≤ k
structure DGood (w : World) (b : Nat) (W : World) : Prop where
 at_ : b = w.heap.size + 1
 res : W.heap[w.heap.size]? = some (.cells #[.slice none 0 0, .slice none 0 0, .slice none 0 0, .slice none 0 0, .slice none 0 0, .slice none 0 0] 34)
 box : ∃ (d : Dfs) (a : DAdr), W.heap[b]? = some (.cells #[slV a.z d.zones.length, slV a.s d.srcs.length, slV a.m d.macs.length, slV a.d d.mdls.length, slV a.n d.snps.length, slV a.c d.chks.length] 34) ∧ (d.ok ∧ d.sm 64) ∧ a_B XB (fun V => d.Sl V a) W
 bel : Below w.heap.size w W
theorem DGood.lt {w W : World} {b : Nat} (h : DGood w b W) : b < W.heap.size := by
 obtain ⟨d, a, h1, _⟩ := h.box
 exact a_6 h1
theorem DGood.go {w W V : World} {b : Nat} (h : DGood w b W) (hb : Below W.heap.size W V) : DGood w b V := by
 obtain ⟨d, a, h1, h2, h3⟩ := h.box
 exact ⟨h.at_, (hb.block _ (by have := h.lt; have := h.at_; omega)).trans h.res, ⟨d, a, (hb.block _ h.lt).trans h1, h2, h3.go (KeepX.of hb)⟩, a_9 hb h.bel⟩
theorem DGood.drew {w W : World} {b : Nat} (h : DGood w b W) : DGood w b W.drew := h.go (Below.drew (b_ _ _))
theorem DGood.ofs {w W : World} {b : Nat} (h : DGood w b W) (j : Nat) (v : Value) : KeepX XB W (W.setCell ⟨b, j, none⟩ v) := by
 obtain ⟨d, a, h1, _⟩ := h.box
 exact KeepX.set fun o ho => by rw [h1] at ho; exact ⟨_, _, .inl (Option.some.inj ho).symm⟩
theorem DGood.frees {w W : World} {b : Nat} (h : DGood w b W) (j : Nat) (hj : j < 6) : ∃ v, W.cell? ⟨b, j, none⟩ = some v ∧ W.frozen? ⟨b, j, none⟩ = false := by
 obtain ⟨d, a, h1, _⟩ := h.box
 rw [a_0 h1]
 match j, hj with
 | 0, _ => exact ⟨_, rfl, a_C h1 _⟩
 | 1, _ => exact ⟨_, rfl, a_C h1 _⟩
 | 2, _ => exact ⟨_, rfl, a_C h1 _⟩
 | 3, _ => exact ⟨_, rfl, a_C h1 _⟩
 | 4, _ => exact ⟨_, rfl, a_C h1 _⟩
 | 5, _ => exact ⟨_, rfl, a_C h1 _⟩
theorem DGood.putz {w W : World} {b : Nat} (h : DGood w b W) {A : Option Addr} {c : Nat} {xs : List Zon} (hx : a_B XB (fun V => a_l 3 g_a V A xs) W) (hk : ∀ x ∈ xs, x.name.length ≤ maxLen ∧ x.sh.length ≤ 8796093022208) (hn : xs.length ≤ 64) : DGood w b (W.setCell ⟨b, 0, none⟩ (.slice A xs.length c)) := by
 obtain ⟨d, a, h1, ⟨h2, h5⟩, h3⟩ := h.box
 refine ⟨h.at_, (Below.heap_setCell _ _ _ _ (by show w.heap.size ≠ b; have := h.at_; omega)).trans h.res, ⟨{ d with zones := xs }, { a with z := (A, c) }, ?_, ⟨{ h2 with zone := hk, lz := by show xs.length ≤ _; omega }, { h5 with z := hn }⟩, fun V hV => ?_⟩, h.bel.setCell (by show w.heap.size ≤ b; have := h.at_; omega) _⟩
 ·rw [a_t h1]
  rfl
 ·have h4 := h3.go (h.ofs 0 (.slice A xs.length c)) V hV
  exact { h4 with hz := hx.go (h.ofs 0 (.slice A xs.length c)) V hV }
theorem DGood.puts {w W : World} {b : Nat} (h : DGood w b W) {A : Option Addr} {c : Nat} {xs : List Srx} (hx : a_B XB (fun V => a_l 7 h_f V A xs) W) (hk : ∀ x ∈ xs, x.ok) (hn : xs.length ≤ 64) : DGood w b (W.setCell ⟨b, 1, none⟩ (.slice A xs.length c)) := by
 obtain ⟨d, a, h1, ⟨h2, h5⟩, h3⟩ := h.box
 refine ⟨h.at_, (Below.heap_setCell _ _ _ _ (by show w.heap.size ≠ b; have := h.at_; omega)).trans h.res, ⟨{ d with srcs := xs }, { a with s := (A, c) }, ?_, ⟨{ h2 with src := hk, ls := by show xs.length ≤ _; omega }, { h5 with s := hn }⟩, fun V hV => ?_⟩, h.bel.setCell (by show w.heap.size ≤ b; have := h.at_; omega) _⟩
 ·rw [a_t h1]
  rfl
 ·have h4 := h3.go (h.ofs 1 (.slice A xs.length c)) V hV
  exact { h4 with hs := hx.go (h.ofs 1 (.slice A xs.length c)) V hV }
theorem DGood.putm {w W : World} {b : Nat} (h : DGood w b W) {A : Option Addr} {c : Nat} {xs : List Mac} (hx : a_B XB (fun V => a_l 3 f_J V A xs) W) (hk : ∀ x ∈ xs, x.ok) (hn : xs.length ≤ 64) : DGood w b (W.setCell ⟨b, 2, none⟩ (.slice A xs.length c)) := by
 obtain ⟨d, a, h1, ⟨h2, h5⟩, h3⟩ := h.box
 refine ⟨h.at_, (Below.heap_setCell _ _ _ _ (by show w.heap.size ≠ b; have := h.at_; omega)).trans h.res, ⟨{ d with macs := xs }, { a with m := (A, c) }, ?_, ⟨{ h2 with mac := hk, lm := by show xs.length ≤ _; omega }, { h5 with m := hn }⟩, fun V hV => ?_⟩, h.bel.setCell (by show w.heap.size ≤ b; have := h.at_; omega) _⟩
 ·rw [a_t h1]
  rfl
 ·have h4 := h3.go (h.ofs 2 (.slice A xs.length c)) V hV
  exact { h4 with hm := hx.go (h.ofs 2 (.slice A xs.length c)) V hV }
theorem DGood.putd {w W : World} {b : Nat} (h : DGood w b W) {A : Option Addr} {c : Nat} {xs : List Mdl} (hx : a_B XB (fun V => a_l 8 f_I V A xs) W) (hk : ∀ x ∈ xs, x.ok) (hn : xs.length ≤ 64) (hq : ∀ x ∈ xs, x.query.length ≤ 64) : DGood w b (W.setCell ⟨b, 3, none⟩ (.slice A xs.length c)) := by
 obtain ⟨d, a, h1, ⟨h2, h5⟩, h3⟩ := h.box
 refine ⟨h.at_, (Below.heap_setCell _ _ _ _ (by show w.heap.size ≠ b; have := h.at_; omega)).trans h.res, ⟨{ d with mdls := xs }, { a with d := (A, c) }, ?_, ⟨{ h2 with mdl := hk, ld := by show xs.length ≤ _; omega }, { h5 with d := hn, q := hq }⟩, fun V hV => ?_⟩, h.bel.setCell (by show w.heap.size ≤ b; have := h.at_; omega) _⟩
 ·rw [a_t h1]
  rfl
 ·have h4 := h3.go (h.ofs 3 (.slice A xs.length c)) V hV
  exact { h4 with hd := hx.go (h.ofs 3 (.slice A xs.length c)) V hV }
theorem DGood.putn {w W : World} {b : Nat} (h : DGood w b W) {A : Option Addr} {c : Nat} {xs : List Snp} (hx : a_B XB (fun V => a_l 2 i_i V A xs) W) (hk : ∀ x ∈ xs, x.ok) (hn : xs.length ≤ 64) : DGood w b (W.setCell ⟨b, 4, none⟩ (.slice A xs.length c)) := by
 obtain ⟨d, a, h1, ⟨h2, h5⟩, h3⟩ := h.box
 refine ⟨h.at_, (Below.heap_setCell _ _ _ _ (by show w.heap.size ≠ b; have := h.at_; omega)).trans h.res, ⟨{ d with snps := xs }, { a with n := (A, c) }, ?_, ⟨{ h2 with snp := hk, ln := by show xs.length ≤ _; omega }, { h5 with n := hn }⟩, fun V hV => ?_⟩, h.bel.setCell (by show w.heap.size ≤ b; have := h.at_; omega) _⟩
 ·rw [a_t h1]
  rfl
 ·have h4 := h3.go (h.ofs 4 (.slice A xs.length c)) V hV
  exact { h4 with hn := hx.go (h.ofs 4 (.slice A xs.length c)) V hV }
theorem DGood.putc {w W : World} {b : Nat} (h : DGood w b W) {A : Option Addr} {c : Nat} {xs : List Chk} (hx : a_B XB (fun V => a_l 14 f_h V A xs) W) (hk : ∀ x ∈ xs, x.ok) (hn : xs.length ≤ 64) : DGood w b (W.setCell ⟨b, 5, none⟩ (.slice A xs.length c)) := by
 obtain ⟨d, a, h1, ⟨h2, h5⟩, h3⟩ := h.box
 refine ⟨h.at_, (Below.heap_setCell _ _ _ _ (by show w.heap.size ≠ b; have := h.at_; omega)).trans h.res, ⟨{ d with chks := xs }, { a with c := (A, c) }, ?_, ⟨{ h2 with chk := hk, lc := by show xs.length ≤ _; omega }, { h5 with c := hn }⟩, fun V hV => ?_⟩, h.bel.setCell (by show w.heap.size ≤ b; have := h.at_; omega) _⟩
 ·rw [a_t h1]
  rfl
 ·have h4 := h3.go (h.ofs 5 (.slice A xs.length c)) V hV
  exact { h4 with hc := hx.go (h.ofs 5 (.slice A xs.length c)) V hV }
theorem Tryz.info_mac : (prog.info? 74).map (fun i => (i.zero, i.size, i.bytes)) = some (some (.agg #[.string ⟨#[]⟩, .slice none 0 0, .slice none 0 0]), 3, 64) := by kernel_rfl
theorem Tryz.info_stp9 : (prog.info? 129).map (fun i => (i.zero, i.size, i.bytes)) = some (some (.agg #[.int .i64 0, .string ⟨#[]⟩, .slice none 0 0, .slice none 0 0, .slice none 0 0, .slice none 0 0]), 6, 120) := by kernel_rfl
def vE (W : World) (v : Value) : Prop := ∃ (A : Option Addr) (c : Nat) (es : List Nd), v = .slice A es.length c ∧ es.length ≤ 121 ∧ b_Q es ∧ a_B XB (fun V => b_q V A es) W
def vG {α : Type} (C : Cel α) (ok : α → Prop) (W : World) (v : Value) : Prop := ∃ (x : α) (vs : List Value), v = .agg vs.toArray ∧ ok x ∧ a_B XB (fun V => C V x vs) W
def vR {α : Type} (n k : Nat) (C : Cel α) (ok : α → Prop) (W : World) (v : Value) : Prop := ∃ (A : Option Addr) (c : Nat) (xs : List α), v = .slice A xs.length c ∧ xs.length ≤ n ∧ (∀ x ∈ xs, ok x) ∧ a_B XB (fun V => a_l k C V A xs) W
def vK (W : World) (v : Value) : Prop := ∃ g, v = .slice (some ⟨g, 0, none⟩) 4 4 ∧ W.heap[g]? = some (.cells d_Z 126)
def vB (t : TypeId) (vs : List Value) (W : World) (v : Value) : Prop := ∃ g, v = .slice (some ⟨g, 0, none⟩) 1 1 ∧ W.heap[g]? = some (.cells vs.toArray t)
theorem p_f (w : World) : DGood w (w.heap.size + 1) ((w.alloc (.cells #[.slice none 0 0, .slice none 0 0, .slice none 0 0, .slice none 0 0, .slice none 0 0, .slice none 0 0] 34)).alloc (.cells #[.slice none 0 0, .slice none 0 0, .slice none 0 0, .slice none 0 0, .slice none 0 0, .slice none 0 0] 34)) where
 at_ := rfl
 res := a_K (a_M w _ _ rfl)
 box := ⟨⟨[], [], [], [], [], []⟩, ⟨(none, 0), (none, 0), (none, 0), (none, 0), (none, 0), (none, 0)⟩, a_M _ _ _ s_, ⟨by constructor <;> simp, by constructor <;> simp⟩, fun V _ => ⟨.inl rfl, .inl rfl, .inl rfl, .inl rfl, .inl rfl, .inl rfl⟩⟩
 bel := ((b_ _ _).alloc (l_ _) _).alloc s_ _
theorem h_y {W : World} {g j : Nat} {v : Value} (h : ∃ cs r, W.heap[g]? = some (.cells cs 34 r)) : KeepX XB W (W.setCell ⟨g, j, none⟩ v) ∧ ∃ cs r, (W.setCell ⟨g, j, none⟩ v).heap[g]? = some (.cells cs 34 r) := by
 obtain ⟨cs, r, h⟩ := h
 exact ⟨KeepX.set fun o ho => by rw [h] at ho; exact ⟨_, _, .inl (Option.some.inj ho).symm⟩, _, _, a_t h⟩
theorem q_U {W : World} {g : Nat} {cs : Array Value} (h : W.heap[g]? = some (.cells cs 34)) (v0 v1 v2 v3 v4 v5 : Value) :
  KeepX XB W ((((((W.setCell ⟨g, 0, none⟩ v0).setCell ⟨g, 1, none⟩ v1).setCell ⟨g, 2, none⟩ v2).setCell ⟨g, 3, none⟩ v3).setCell ⟨g, 4, none⟩ v4).setCell ⟨g, 5, none⟩ v5) := by
 obtain ⟨k0, h0⟩ := h_y (j := 0) (v := v0) ⟨_, _, h⟩
 obtain ⟨k1, h1⟩ := h_y (j := 1) (v := v1) h0
 obtain ⟨k2, h2⟩ := h_y (j := 2) (v := v2) h1
 obtain ⟨k3, h3⟩ := h_y (j := 3) (v := v3) h2
 obtain ⟨k4, h4⟩ := h_y (j := 4) (v := v4) h3
 obtain ⟨k5, _⟩ := h_y (j := 5) (v := v5) h4
 exact k0.trans (k1.trans (k2.trans (k3.trans (k4.trans k5))))
theorem r_t {w : World} {B : Nat} {x0 x1 x2 x3 x4 x5 : Value} {t : TypeId} (h : w.heap[B]? = some (.cells #[x0, x1, x2, x3, x4, x5] t)) (a b c d e f : Value) :
  ((((((w.setCell ⟨B, 0, none⟩ a).setCell ⟨B, 1, none⟩ b).setCell ⟨B, 2, none⟩ c).setCell ⟨B, 3, none⟩ d).setCell ⟨B, 4, none⟩ e).setCell ⟨B, 5, none⟩ f).heap[B]? = some (.cells #[a, b, c, d, e, f] t) := by
 have h6 := a_t (j := 5) (v := f) (a_t (j := 4) (v := e) (a_t (j := 3) (v := d) (a_t (j := 2) (v := c) (a_t (j := 1) (v := b) (a_t (j := 0) (v := a) h)))))
 simpa using h6
theorem s_Q {B : Nat} {w w3 : World} {b : Nat} (h : Below B w w3) (hb : B ≤ b) (v0 v1 v2 v3 v4 v5 : Value) :
  Below B w ((((((w3.setCell ⟨b, 0, none⟩ v0).setCell ⟨b, 1, none⟩ v1).setCell ⟨b, 2, none⟩ v2).setCell ⟨b, 3, none⟩ v3).setCell ⟨b, 4, none⟩ v4).setCell ⟨b, 5, none⟩ v5) :=
 (((((h.setCell hb _).setCell hb _).setCell hb _).setCell hb _).setCell hb _).setCell hb _
theorem l_Z {R : Ending → World → Prop} {a : Act} {W : World} {b : Nat} {x0 x1 x2 x3 x4 x5 : Value} {t : TypeId} (ht : a.tmps[4]? = some (.pointer (some ⟨b, 0, none⟩))) (hd : a.defers = []) (hW : W.heap[b]? = some (.cells #[x0, x1, x2, x3, x4, x5] t))
  (hR : R (.returned (.agg #[x0, x1, x2, x3, x4, x5])) W) : bodyPost prog Tryz.f18 R .ret a W := by
 refine s_n ?_; intro s0 s1 s2 s3 s4 s5
 simp at s0 s1 s2 s3 s4 s5
 exact bodyPost_ret (v := .agg #[x0, x1, x2, x3, x4, x5]) (by simp [results, results18, go_sem, ht, s0, s1, s2, s3, s4, s5]) hd hR
theorem i_h {W : World} {g : Nat} {vs : List Value} {t : TypeId} (h : W.heap[g]? = some (.cells vs.toArray t)) : ∀ b, some (⟨g, 0, none⟩ : Addr) = some b → ∀ (j : Nat) (u : Value), vs[j]? = some u → W.cell? (b.add j) = some u := by
 intro b hb j u hu
 obtain rfl := Option.some.inj hb
 have e : (⟨g, 0, none⟩ : Addr).add j = ⟨g, j, none⟩ := by cases j <;> simp [Addr.add]
 rw [e, a_0 h]
 simpa using hu
theorem j_b {w2 : World} {g1 : Nat} {s1 s2 : a_3} (hN : a_B XB (fun V => b_q V (some ⟨g1, 0, none⟩) [⟨1, vl0, [118], 0⟩, ⟨21, vl0, s1, 1⟩]) w2) (hl1 : s1.length ≤ maxLen) (hl2 : s2.length ≤ maxLen) :
  ∃ (a b : Stp) (va vb : List Value), ((w2.alloc (.cells #[str [119], .int .i64 0, str [], .int .i64 0, .slice (some ⟨g1, 0, none⟩) 2 2] 135)).alloc (.cells #[.int .i64 0, str s2, .slice none 0 0, .slice none 0 0, .slice none 0 0, .slice none 0 0, .int .i64 2, str [], .slice none 0 0, .slice none 0 0, .slice (some ⟨w2.heap.size, 0, none⟩) 1 1, .slice none 0 0] 129)).heap[w2.heap.size + 1]? = some (.cells (va ++ vb).toArray 129) ∧ va.length = 6 ∧ vb.length = 6 ∧ a.ok ∧ b.ok ∧ a_B XB (fun V => l_H V a va) ((w2.alloc (.cells #[str [119], .int .i64 0, str [], .int .i64 0, .slice (some ⟨g1, 0, none⟩) 2 2] 135)).alloc (.cells #[.int .i64 0, str s2, .slice none 0 0, .slice none 0 0, .slice none 0 0, .slice none 0 0, .int .i64 2, str [], .slice none 0 0, .slice none 0 0, .slice (some ⟨w2.heap.size, 0, none⟩) 1 1, .slice none 0 0] 129)) ∧ a_B XB (fun V => l_H V b vb) ((w2.alloc (.cells #[str [119], .int .i64 0, str [], .int .i64 0, .slice (some ⟨g1, 0, none⟩) 2 2] 135)).alloc (.cells #[.int .i64 0, str s2, .slice none 0 0, .slice none 0 0, .slice none 0 0, .slice none 0 0, .int .i64 2, str [], .slice none 0 0, .slice none 0 0, .slice (some ⟨w2.heap.size, 0, none⟩) 1 1, .slice none 0 0] 129)) := by
 have g0 := a_K (o := .cells #[.int .i64 0, str s2, .slice none 0 0, .slice none 0 0, .slice none 0 0, .slice none 0 0, .int .i64 2, str [], .slice none 0 0, .slice none 0 0, .slice (some ⟨w2.heap.size, 0, none⟩) 1 1, .slice none 0 0] 129) (a_M w2 (.cells #[str [119], .int .i64 0, str [], .int .i64 0, .slice (some ⟨g1, 0, none⟩) 2 2] 135) _ rfl)
 have g2 := a_M (w2.alloc (.cells #[str [119], .int .i64 0, str [], .int .i64 0, .slice (some ⟨g1, 0, none⟩) 2 2] 135)) (.cells #[.int .i64 0, str s2, .slice none 0 0, .slice none 0 0, .slice none 0 0, .slice none 0 0, .int .i64 2, str [], .slice none 0 0, .slice none 0 0, .slice (some ⟨w2.heap.size, 0, none⟩) 1 1, .slice none 0 0] 129) (w2.heap.size + 1) s_
 have hb : Below w2.heap.size w2 ((w2.alloc (.cells #[str [119], .int .i64 0, str [], .int .i64 0, .slice (some ⟨g1, 0, none⟩) 2 2] 135)).alloc (.cells #[.int .i64 0, str s2, .slice none 0 0, .slice none 0 0, .slice none 0 0, .slice none 0 0, .int .i64 2, str [], .slice none 0 0, .slice none 0 0, .slice (some ⟨w2.heap.size, 0, none⟩) 1 1, .slice none 0 0] 129)) := ((b_ _ _).alloc (l_ _) _).alloc s_ _
 have hI := c_Y (k := 5) (C := ItC) (x := ⟨[119], 0, [], 0, [⟨1, vl0, [118], 0⟩, ⟨21, vl0, s1, 1⟩]⟩) (vs := [str [119], .int .i64 0, str [], .int .i64 0, .slice (some ⟨g1, 0, none⟩) 2 2]) g0 d_ d_ rfl ((hN.go (KeepX.of hb)).mono fun V h => ⟨(some ⟨g1, 0, none⟩, 2), h, rfl⟩)
 generalize ((w2.alloc (.cells #[str [119], .int .i64 0, str [], .int .i64 0, .slice (some ⟨g1, 0, none⟩) 2 2] 135)).alloc (.cells #[.int .i64 0, str s2, .slice none 0 0, .slice none 0 0, .slice none 0 0, .slice none 0 0, .int .i64 2, str [], .slice none 0 0, .slice none 0 0, .slice (some ⟨w2.heap.size, 0, none⟩) 1 1, .slice none 0 0] 129)) = V at *
 refine ⟨⟨0, s2, [], [], [], []⟩, ⟨2, [], [], [], [⟨[119], 0, [], 0, [⟨1, vl0, [118], 0⟩, ⟨21, vl0, s1, 1⟩]⟩], []⟩, _, _, g2, rfl, rfl, ?_, ?_, fun U _ => ⟨⟨none, 0, none, 0, none, 0, none, 0⟩, ⟨.inl rfl, .inl rfl, .inl rfl, .inl rfl, l_ _, l_ _, l_ _⟩, rfl⟩, hI.mono fun U h => ⟨⟨none, 0, none, 0, some ⟨w2.heap.size, 0, none⟩, 1, none, 0⟩, ⟨.inl rfl, .inl rfl, j_z h, .inl rfl, l_ _, l_ _, l_ _⟩, rfl⟩⟩
 ·exact ⟨hl2, s_, s_, s_, s_, s_, fun n h => (List.not_mem_nil h).elim⟩
 ·refine ⟨by simp [maxLen], s_, s_, s_, ?_, s_, fun n h => (List.not_mem_nil h).elim⟩
  intro x hx
  rw [List.mem_singleton.1 hx]
  refine ⟨fun n hn => ?_, s_⟩
  simp at hn
  rcases hn with rfl | rfl
  ·simp [maxLen]
  ·exact hl1
theorem n_l {W : World} {B : Option Addr} {d : Nat} {es : List Nd} (h3 : a_B XB (fun V => b_q V B es) W) (h1 : es.length ≤ 121) (h2 : b_Q es) : (⟨1, [], [], [], [], es⟩ : Stp).ok ∧ a_B XB (fun V => l_H V ⟨1, [], [], [], [], es⟩ [.int .i64 1, str [], .slice none 0 0, .slice none 0 0, .slice none 0 0, .slice B es.length d]) W :=
 ⟨⟨by simp [maxLen], s_, s_, s_, s_, by show es.length ≤ _; omega, h2⟩, h3.mono fun V h => ⟨⟨none, 0, none, 0, none, 0, B, d⟩, ⟨.inl rfl, .inl rfl, .inl rfl, h, l_ _, l_ _, l_ _⟩, rfl⟩⟩
theorem k_Z {w W0 : World} {b : Nat} (hg : DGood w b W0) (v : Vl) (q : Int) : ∃ (x : Mac) (mc : List Value), DGood w b ((((W0.setCell ⟨b, 2, none⟩ (.slice (some ⟨W0.heap.size + 1 + 1, 0, none⟩) 1 1)).alloc (.cells #[.int .i64 1, .int .i64 0, .int .i64 0, str [], str [120], .int .i64 0, .int .i64 0, .int .i64 v.kind, .int .i64 v.num, str v.text, str [], .int .i64 0, .int .i64 q, .int .i64 0, .int .i64 0, str [], str [], .int .i64 0] 72)).alloc (.cells #[str [120]] 9)).alloc (.cells #[str [102], .slice (some ⟨W0.heap.size + 1, 0, none⟩) 1 1, .slice (some ⟨W0.heap.size, 0, none⟩) 3 3] 74)) ∧ ((((W0.setCell ⟨b, 2, none⟩ (.slice (some ⟨W0.heap.size + 1 + 1, 0, none⟩) 1 1)).alloc (.cells #[.int .i64 1, .int .i64 0, .int .i64 0, str [], str [120], .int .i64 0, .int .i64 0, .int .i64 v.kind, .int .i64 v.num, str v.text, str [], .int .i64 0, .int .i64 q, .int .i64 0, .int .i64 0, str [], str [], .int .i64 0] 72)).alloc (.cells #[str [120]] 9)).alloc (.cells #[str [102], .slice (some ⟨W0.heap.size + 1, 0, none⟩) 1 1, .slice (some ⟨W0.heap.size, 0, none⟩) 3 3] 74)).heap[W0.heap.size + 1 + 1]? = some (.cells mc.toArray 74) ∧ mc.length = 3 ∧ x.ok ∧ a_B XB (fun V => f_J V x mc) ((((W0.setCell ⟨b, 2, none⟩ (.slice (some ⟨W0.heap.size + 1 + 1, 0, none⟩) 1 1)).alloc (.cells #[.int .i64 1, .int .i64 0, .int .i64 0, str [], str [120], .int .i64 0, .int .i64 0, .int .i64 v.kind, .int .i64 v.num, str v.text, str [], .int .i64 0, .int .i64 q, .int .i64 0, .int .i64 0, str [], str [], .int .i64 0] 72)).alloc (.cells #[str [120]] 9)).alloc (.cells #[str [102], .slice (some ⟨W0.heap.size + 1, 0, none⟩) 1 1, .slice (some ⟨W0.heap.size, 0, none⟩) 3 3] 74)) ∧ ((((W0.setCell ⟨b, 2, none⟩ (.slice (some ⟨W0.heap.size + 1 + 1, 0, none⟩) 1 1)).alloc (.cells #[.int .i64 1, .int .i64 0, .int .i64 0, str [], str [120], .int .i64 0, .int .i64 0, .int .i64 v.kind, .int .i64 v.num, str v.text, str [], .int .i64 0, .int .i64 q, .int .i64 0, .int .i64 0, str [], str [], .int .i64 0] 72)).alloc (.cells #[str [120]] 9)).alloc (.cells #[str [102], .slice (some ⟨W0.heap.size + 1, 0, none⟩) 1 1, .slice (some ⟨W0.heap.size, 0, none⟩) 3 3] 74)).cell? ⟨b, 2, none⟩ = some (.slice (some ⟨W0.heap.size + 1 + 1, 0, none⟩) 1 1) := by
 rw [p_9 hg.lt]
 have g0 := a_K (o := .cells #[str [102], .slice (some ⟨W0.heap.size + 1, 0, none⟩) 1 1, .slice (some ⟨W0.heap.size, 0, none⟩) 3 3] 74) (a_K (o := .cells #[str [120]] 9) (a_M W0 (.cells #[.int .i64 1, .int .i64 0, .int .i64 0, str [], str [120], .int .i64 0, .int .i64 0, .int .i64 v.kind, .int .i64 v.num, str v.text, str [], .int .i64 0, .int .i64 q, .int .i64 0, .int .i64 0, str [], str [], .int .i64 0] 72) _ rfl))
 have g1 := a_K (o := .cells #[str [102], .slice (some ⟨W0.heap.size + 1, 0, none⟩) 1 1, .slice (some ⟨W0.heap.size, 0, none⟩) 3 3] 74) (a_M (W0.alloc (.cells #[.int .i64 1, .int .i64 0, .int .i64 0, str [], str [120], .int .i64 0, .int .i64 0, .int .i64 v.kind, .int .i64 v.num, str v.text, str [], .int .i64 0, .int .i64 q, .int .i64 0, .int .i64 0, str [], str [], .int .i64 0] 72)) (.cells #[str [120]] 9) (W0.heap.size + 1) s_)
 have g2 := a_M ((W0.alloc (.cells #[.int .i64 1, .int .i64 0, .int .i64 0, str [], str [120], .int .i64 0, .int .i64 0, .int .i64 v.kind, .int .i64 v.num, str v.text, str [], .int .i64 0, .int .i64 q, .int .i64 0, .int .i64 0, str [], str [], .int .i64 0] 72)).alloc (.cells #[str [120]] 9)) (.cells #[str [102], .slice (some ⟨W0.heap.size + 1, 0, none⟩) 1 1, .slice (some ⟨W0.heap.size, 0, none⟩) 3 3] 74) (W0.heap.size + 1 + 1) s_
 have hb : Below W0.heap.size W0 (((W0.alloc (.cells #[.int .i64 1, .int .i64 0, .int .i64 0, str [], str [120], .int .i64 0, .int .i64 0, .int .i64 v.kind, .int .i64 v.num, str v.text, str [], .int .i64 0, .int .i64 q, .int .i64 0, .int .i64 0, str [], str [], .int .i64 0] 72)).alloc (.cells #[str [120]] 9)).alloc (.cells #[str [102], .slice (some ⟨W0.heap.size + 1, 0, none⟩) 1 1, .slice (some ⟨W0.heap.size, 0, none⟩) 3 3] 74)) := (((b_ _ _).alloc (l_ _) _).alloc s_ _).alloc m_ _
 have hV := hg.go hb
 have hM : a_B XB (fun V => f_J V ⟨[102], [ [120]], [⟨1, vl0, [120], 0⟩, ⟨0, v, [], 0⟩, ⟨q, vl0, [], 0⟩]⟩ [str [102], .slice (some ⟨W0.heap.size + 1, 0, none⟩) 1 1, .slice (some ⟨W0.heap.size, 0, none⟩) 3 3]) (((W0.alloc (.cells #[.int .i64 1, .int .i64 0, .int .i64 0, str [], str [120], .int .i64 0, .int .i64 0, .int .i64 v.kind, .int .i64 v.num, str v.text, str [], .int .i64 0, .int .i64 q, .int .i64 0, .int .i64 0, str [], str [], .int .i64 0] 72)).alloc (.cells #[str [120]] 9)).alloc (.cells #[str [102], .slice (some ⟨W0.heap.size + 1, 0, none⟩) 1 1, .slice (some ⟨W0.heap.size, 0, none⟩) 3 3] 74)) :=
  ((b_t (l := [ [120]]) (c := 1) g1 (nXB d_ d_) s_).and (h_C (es := [⟨1, vl0, [120], 0⟩, ⟨0, v, [], 0⟩, ⟨q, vl0, [], 0⟩]) g0 (nXB d_ d_))).mono fun V h => ⟨(some ⟨W0.heap.size + 1, 0, none⟩, 1), (some ⟨W0.heap.size, 0, none⟩, 3), h.1, h.2, rfl⟩
 generalize (((W0.alloc (.cells #[.int .i64 1, .int .i64 0, .int .i64 0, str [], str [120], .int .i64 0, .int .i64 0, .int .i64 v.kind, .int .i64 v.num, str v.text, str [], .int .i64 0, .int .i64 q, .int .i64 0, .int .i64 0, str [], str [], .int .i64 0] 72)).alloc (.cells #[str [120]] 9)).alloc (.cells #[str [102], .slice (some ⟨W0.heap.size + 1, 0, none⟩) 1 1, .slice (some ⟨W0.heap.size, 0, none⟩) 3 3] 74)) = V at *
 have hk : (⟨[102], [ [120]], [⟨1, vl0, [120], 0⟩, ⟨0, v, [], 0⟩, ⟨q, vl0, [], 0⟩]⟩ : Mac).ok := ⟨by simp [maxLen], s_, s_, by intro n hn; simp at hn; rcases hn with rfl | rfl | rfl <;> simp [maxLen]⟩
 refine ⟨_, _, hV.putm (c := 1) (c_Y g2 d_ d_ rfl hM) (by intro x hx; rw [List.mem_singleton.1 hx]; exact hk) s_, (hV.ofs 2 _).block _ _ g2 (nXB d_ d_), rfl, hk, hM.go (hV.ofs 2 _), ?_⟩
 obtain ⟨d0, a0, h1, _⟩ := hV.box
 rw [a_0 (a_t h1)]
 rfl
set_option maxRecDepth 100000
theorem h_D (hNode : d_B) (A : Option Addr) (c : Nat) (l : List Int) (n : Int) (w : World) (hl : b_R w A l) :
  Calls prog 18 #[.slice A l.length c, .int .i64 n] w fun e w' => (∃ (d : Dfs) (a : DAdr), e = .returned (.agg #[slV a.z d.zones.length, slV a.s d.srcs.length, slV a.m d.macs.length, slV a.d d.mdls.length, slV a.n d.snps.length, slV a.c d.chks.length]) ∧ (d.ok ∧ d.sm 64) ∧ a_B XB (fun V => d.Sl V a) w') ∧ Below w.heap.size w w' := by
 have HA := a_2 (fun (i : Int) (W : World) (hb : Below w.heap.size w W) => (e_r A l i W c (hl.below hb)).mono (R' := fun e w' => (∃ n : Int, e = .returned (.int .i64 n) ∧ 0 ≤ n ∧ n ≤ 131072) ∧ Below W.heap.size W w') fun e w' ⟨he, m, hm⟩ => ⟨⟨_, he, k_z l i, m_W l i⟩, by rw [hm]; exact a_4 (b_ _ _) _⟩)
 have HE := a_2 (fun (i : Int) (C : Option Addr) (W : World) (hb : Below w.heap.size w W) (hC : b_1 W C g_l) (h0 : 0 ≤ i) (h1 : i ≤ 100) => (e_P hNode 2 d_ 1 i C g_l 4 A l c W hC m_m d_ (hl.below hb) h0 (Int.le_trans h1 d_)).mono (R' := fun e w' => (∃ v, e = .returned v ∧ vE w' v) ∧ Below W.heap.size W w') fun e w' ⟨⟨es, g, B, d, he, ho⟩, hb'⟩ => ⟨⟨_, he, B, d, es, rfl, g.short d_, g.names, k_H ho⟩, hb'⟩)
 have HV := a_2 (fun (k m : Int) (W : World) => d_9 k m W)
 have HP := a_2 (fun (W : World) => d_V W)
 clear hl hNode
 go_enter func18, ntmps18
 go_upto_if 12 with fail
 have hg := p_f w
 generalize (w.alloc (.cells #[.slice none 0 0, .slice none 0 0, .slice none 0 0, .slice none 0 0, .slice none 0 0, .slice none 0 0] 34)).alloc (.cells #[.slice none 0 0, .slice none 0 0, .slice none 0 0, .slice none 0 0, .slice none 0 0, .slice none 0 0] 34) = W0 at *
 generalize w.heap.size + 1 = b at *
 go_cut [] from 12 (fun wx => DGood w b wx)
 case first =>
  clear HA HE HV HP
  obtain ⟨_, f1, f2⟩ := hg.frees 0 d_
  obtain ⟨l1, l2, l3⟩ := e_g hg.lt
  have l0 := hg.lt
  go_wp2_with fail
  ·go_meet
   rw [p_x l0]; have h1 := a_K (o := .cells #[str [122, 48], .int .i64 60, .slice none 0 0, str [122, 49], .int .i64 (-300), .slice (some ⟨W0.heap.size, 0, none⟩) 1 1] 47) (a_M W0 (.cells #[.int .i64 145000, .int .i64 (-240)] 131) _ rfl); have h2 := a_M (W0.alloc (.cells #[.int .i64 145000, .int .i64 (-240)] 131)) (.cells #[str [122, 48], .int .i64 60, .slice none 0 0, str [122, 49], .int .i64 (-300), .slice (some ⟨W0.heap.size, 0, none⟩) 1 1] 47) (W0.heap.size + 1) s_
   exact (hg.go (((b_ _ _).alloc (l_ _) _).alloc s_ _)).putz (xs := [⟨[122, 48], 60, []⟩, ⟨[122, 49], -300, [(145000, -240)]⟩]) (h_F (vs := [str [122, 48], .int .i64 60, .slice none 0 0]) (us := [str [122, 49], .int .i64 (-300), .slice (some ⟨W0.heap.size, 0, none⟩) 1 1]) h2 d_ d_ rfl rfl (fun V _ => ⟨(none, 0), .inl rfl, rfl⟩)
    ((c_Y (C := ShC) (x := (145000, -240)) (vs := [.int .i64 145000, .int .i64 (-240)]) h1 d_ d_ rfl (a_B.pure rfl)).mono fun V h => ⟨(some ⟨W0.heap.size, 0, none⟩, 1), j_m h, rfl⟩)) (by simp [maxLen]) s_
  ·go_meet
   exact hg
 case rest =>
 clear hg W0
 rename DGood w b _ => hg
 rename World => W0
 go_upto_if 21 with fail
 go_cut [] from 21 (fun wx => DGood w b wx)
 case first =>
  clear HA HE HV
  obtain ⟨_, f1, f2⟩ := hg.frees 1 d_
  obtain ⟨l1, l2, l3⟩ := e_g hg.lt
  have l0 := hg.lt
  go_wp2_with fail
  ·refine (HP.out _).mono ?_
   rintro e w1 ⟨rfl, rfl⟩
   go_wp2_with fail
   go_meet
   rw [p_9 l0]; have h1 := a_M W0 (.cells d_Z 126) _ rfl; have h2 := a_M (W0.alloc (.cells d_Z 126)) (.cells #[str [105, 100]] 9) (W0.heap.size + 1) s_; have hc : Below W0.heap.size W0 (((W0.alloc (.cells d_Z 126)).alloc (.cells #[str [105, 100]] 9)).alloc (.cells #[str [111, 114, 100, 101, 114, 115], .slice (some ⟨W0.heap.size, 0, none⟩) 4 4, .slice (some ⟨W0.heap.size + 1, 0, none⟩) 1 1, str [97, 116], str [122, 48], .int .i64 60, .int .i64 0] 57)) := (((b_ _ _).alloc (l_ _) _).alloc s_ _).alloc m_ _; have h3 := a_M ((W0.alloc (.cells d_Z 126)).alloc (.cells #[str [105, 100]] 9)) (.cells #[str [111, 114, 100, 101, 114, 115], .slice (some ⟨W0.heap.size, 0, none⟩) 4 4, .slice (some ⟨W0.heap.size + 1, 0, none⟩) 1 1, str [97, 116], str [122, 48], .int .i64 60, .int .i64 0] 57) (W0.heap.size + 1 + 1) s_; have k1 := a_K (o := .cells #[str [111, 114, 100, 101, 114, 115], .slice (some ⟨W0.heap.size, 0, none⟩) 4 4, .slice (some ⟨W0.heap.size + 1, 0, none⟩) 1 1, str [97, 116], str [122, 48], .int .i64 60, .int .i64 0] 57) (a_K (o := .cells #[str [105, 100]] 9) h1); have k2 := a_K (o := .cells #[str [111, 114, 100, 101, 114, 115], .slice (some ⟨W0.heap.size, 0, none⟩) 4 4, .slice (some ⟨W0.heap.size + 1, 0, none⟩) 1 1, str [97, 116], str [122, 48], .int .i64 60, .int .i64 0] 57) h2
   exact (hg.go hc).puts (xs := [⟨[111, 114, 100, 101, 114, 115], g_l, [ [105, 100]], [97, 116], [122, 48], 60, 0⟩]) (c_Y (vs := [str [111, 114, 100, 101, 114, 115], .slice (some ⟨W0.heap.size, 0, none⟩) 4 4, .slice (some ⟨W0.heap.size + 1, 0, none⟩) 1 1, str [97, 116], str [122, 48], .int .i64 60, .int .i64 0]) h3 d_ d_ rfl
    (((a_B.blk k1 (nXB d_ d_) fun V hv => f_n hv).and (b_t (l := [ [105, 100]]) (c := 1) k2 (nXB d_ d_) d_)).mono fun V h => ⟨(some ⟨W0.heap.size, 0, none⟩, 4), (some ⟨W0.heap.size + 1, 0, none⟩, 1), h.1, h.2, rfl⟩)) (by intro x hx; rw [List.mem_singleton.1 hx]; constructor <;> simp [maxLen, g_l]) s_
  ·go_meet
   exact hg
 case rest =>
 clear hg W0
 rename DGood w b _ => hg
 rename World => W0
 go_upto_if 29 with fail
 go_cut [] from 29 (fun wx => DGood w b wx)
 case first =>
  clear HE HP
  go_wp2_with fail
  rotate_left
  ·go_meet
   exact hg
  refine (HA.out _ _ hg.bel).mono ?_
  rintro e w1 ⟨⟨n1, rfl, p1, p2⟩, hb1⟩
  go_wp2_with fail
  refine (HV.out _ _ _).mono ?_
  rintro e w2 ⟨⟨v, _, rfl⟩, hb2⟩
  go_wp2_with fail
  replace hg := (hg.go hb1).go hb2
  refine (HA.out _ _ hg.bel).mono ?_
  rintro e w3 ⟨⟨n2, rfl, q1, q2⟩, hb3⟩
  replace hg := hg.go hb3
  clear HV hb1 hb2 hb3 p1 p2 w1 w2 W0
  rename World => W0
  obtain ⟨_, f1, f2⟩ := hg.frees 2 d_
  obtain ⟨l1, l2, l3⟩ := e_g hg.lt
  have l0 := hg.lt
  go_upto_region 9 with fail
  obtain ⟨x, mc, hg8, hm8, hml, hxk, hM8, hc8⟩ := k_Z hg v (4 + n2 % 3)
  generalize ((((W0.setCell ⟨b, 2, none⟩ (.slice (some ⟨W0.heap.size + 1 + 1, 0, none⟩) 1 1)).alloc (.cells #[.int .i64 1, .int .i64 0, .int .i64 0, str [], str [120], .int .i64 0, .int .i64 0, .int .i64 v.kind, .int .i64 v.num, str v.text, str [], .int .i64 0, .int .i64 (4 + n2 % 3), .int .i64 0, .int .i64 0, str [], str [], .int .i64 0] 72)).alloc (.cells #[str [120]] 9)).alloc (.cells #[str [102], .slice (some ⟨W0.heap.size + 1, 0, none⟩) 1 1, .slice (some ⟨W0.heap.size, 0, none⟩) 3 3] 74)) = W8 at *
  generalize W0.heap.size + 1 + 1 = gm at *
  clear hg f1 f2 l0 l1 l2 l3 q1 q2
  go_wp2_with fail
  refine (HA.out _ _ hg8.bel).mono ?_
  rintro e w9 ⟨⟨n3, rfl, p1, p2⟩, hb9⟩
  have hg := hg8.go hb9
  have hm9 := (hb9.block _ (a_6 hm8)).trans hm8
  have hM9 := hM8.go (KeepX.of hb9)
  have hc9 := (hb9.cell (p := ⟨b, 2, none⟩) hg8.lt).trans hc8
  clear hg8 hm8 hM8 hc8 hb9 p1 p2 W8
  go_upto_region 10 with fail
  rotate_left
  ·go_meet
   exact hg
  obtain ⟨i0, hi, hz0, hz1, hz2⟩ := info_parts Tryz.info_nd
  obtain ⟨i1, hj, hy0, hy1, hy2⟩ := info_parts Tryz.info_mac
  have CC := a_2 (k_I (C := fun L W => DGood w b W ∧ (L 10 = false → W.cell? ⟨b, 2, none⟩ = some (.slice (some ⟨gm, 0, none⟩) 1 1)) ∧ W.heap[gm]? = some (.cells mc.toArray 74) ∧ a_B XB (fun V => f_J V x mc) W) (fun i L W W' ⟨h1, h2, h3, h4⟩ hb => ⟨h1.go hb, fun h => (hb.cell (p := ⟨b, 2, none⟩) h1.lt).trans (h2 (by simp [e_b] at h; exact h.2)), (hb.block _ (a_6 h3)).trans h3, h4.go (KeepX.of hb)⟩))
  refine b_a (H := fun _ => KeepX XB) (C := fun L W => DGood w b W ∧ (L 10 = false → W.cell? ⟨b, 2, none⟩ = some (.slice (some ⟨gm, 0, none⟩) 1 1)) ∧ W.heap[gm]? = some (.cells mc.toArray 74) ∧ a_B XB (fun V => f_J V x mc) W) (R := fun i => match i with
   | 0 => vC (.pointer (some ⟨b, 2, none⟩))
   | 1 => vC (.slice (some ⟨gm, 0, none⟩) 1 1)
   | 2 => vS [ [120]]
   | 3 => vC (.agg #[.int .i64 1, .int .i64 0, .int .i64 0, str [], str [120], .int .i64 0])
   | 4 => vB 72 (a_D [⟨1, vl0, [120], 0⟩])
   | 5 => vC (.agg #[.int .i64 21, .int .i64 0, .int .i64 0, str [], str [102], .int .i64 1])
   | 6 => vB 72 (a_D [⟨21, vl0, [102], 1⟩])
   | 7 => vE
   | 8 => vG f_J Mac.ok
   | 9 => (fun W v => ∃ (g : Nat) (y : Mac) (us : List Value), v = .slice (some ⟨g, 0, none⟩) 1 1 ∧ W.heap[g]? = some (.cells us.toArray 74) ∧ us.length = 3 ∧ y.ok ∧ a_B XB (fun V => f_J V y us) W)
   | 10 => vR 2 3 f_J Mac.ok
   | 11 => vC (.pointer (some ⟨b, 2, none⟩))
   | _ => fun _ _ => True) (fun _ _ _ _ _ h k => h.trans k) rfl k_ ?xhc0 (c_a.all ?xhop) ?xhend
  case' xhop => refine ⟨?xo0, ?xo1, ?xo2, ?xo3, ?xo4, ?xo5, ?xo6, ?xo7, ?xo8, ?xo9, ?xo10, ?xo11, ?xo12, trivial⟩
  case xo0 =>
   refine a_s CC.out fun L a W hf hc hL hn ht => ?_; refine q_b ?_; intro e1; refine a_e.veil fun K hK => ?_; unfold a_e
   go_simp
   exact d_d
  case xo1 =>
   refine a_s CC.out fun L a W hf hc hL hn ht => ?_; have e1 : a.tmps.getD 50 undef = (.pointer (some ⟨b, 2, none⟩)) := ht 0 k_ 50 rfl W (CC.out.refl L _); have h2 := hc.2.1 (hn 10 _ rfl k_); refine a_e.veil fun K hK => ?_; unfold a_e
   go_simp
   exact d_d
  case xo2 =>
   exact _am
  case xo3 =>
   refine a_s CC.out fun L a W hf hc hL hn ht => ?_; refine a_e.veil fun K hK => ?_; unfold a_e
   go_simp
   exact d_d
  case xo4 =>
   refine a_s CC.out fun L a W hf hc hL hn ht => ?_; have e1 : a.tmps.getD 53 undef = (.agg #[.int .i64 1, .int .i64 0, .int .i64 0, str [], str [120], .int .i64 0]) := ht 3 k_ 53 rfl W (CC.out.refl L _); have e1q := e1; simp only [Array.getD_eq_getD_getElem?] at e1q; refine a_e.veil fun K hK => ?_; unfold a_e
   go_simp
   exact q_j
  case xo5 =>
   refine a_s CC.out fun L a W hf hc hL hn ht => ?_; refine a_e.veil fun K hK => ?_; unfold a_e
   go_simp
   exact d_d
  case xo6 =>
   refine a_s CC.out fun L a W hf hc hL hn ht => ?_; have e1 : a.tmps.getD 55 undef = (.agg #[.int .i64 21, .int .i64 0, .int .i64 0, str [], str [102], .int .i64 1]) := ht 5 k_ 55 rfl W (CC.out.refl L _); have e1q := e1; simp only [Array.getD_eq_getD_getElem?] at e1q; refine a_e.veil fun K hK => ?_; unfold a_e
   go_simp
   exact q_j
  case xo7 =>
   refine a_s CC.out fun L a W hf hc hL hn ht => ?_; obtain ⟨g1, e1, h1⟩ := ht 4 k_ 54 rfl W (CC.out.refl L _); obtain ⟨g2, e2, h2⟩ := ht 6 k_ 56 rfl W (CC.out.refl L _); refine h_z _ _ 63 rfl 72 i0 _ 6 64 underlying63 hi hz0 hz1 hz2 rfl d_ (a_D [⟨1, vl0, [120], 0⟩]) (a_D [⟨21, vl0, [102], 1⟩]) (n := 1) e1 rfl h1 e2 rfl h2 d_ d_ ?_; intro v' w' ho hb; obtain ⟨A3, c3, rfl⟩ := a_j ho; exact ⟨hb, fun V hV => ⟨A3, c3, [⟨1, vl0, [120], 0⟩, ⟨21, vl0, [102], 1⟩], rfl, s_, by intro n hn; simp at hn; rcases hn with rfl | rfl <;> simp [maxLen], (k_H (es := [⟨1, vl0, [120], 0⟩, ⟨21, vl0, [102], 1⟩]) ho).go hV⟩⟩
  case xo8 =>
   refine a_s CC.out fun L a W hf hc hL hn ht => ?_; obtain ⟨g1, e1, h1⟩ := ht 2 k_ 52 rfl W (CC.out.refl L _); obtain ⟨B, d, es, e2, p1, p2, p3⟩ := ht 7 k_ 57 rfl W (CC.out.refl L _); have e1q := e1; have e2q := e2; simp only [Array.getD_eq_getD_getElem?] at e1q e2q; refine a_e.veil fun K hK => ?_; unfold a_e
   go_simp
   exact hK _ _ ⟨b_ _ _, fun V hV => ⟨⟨[103], [ [120]], es⟩, _, rfl, ⟨by simp [maxLen], s_, by show es.length ≤ _; omega, p2⟩, (((b_t (l := [ [120]]) (c := 1) h1 (nXB d_ d_) s_).and p3).go hV).mono fun U h => ⟨(some ⟨g1, 0, none⟩, 1), (B, d), h.1, h.2, rfl⟩⟩⟩
  case xo9 =>
   refine a_s CC.out fun L a W hf hc hL hn ht => ?_; obtain ⟨y, us, e1, y1, y2⟩ := ht 8 k_ 58 rfl W (CC.out.refl L _); obtain ⟨p1, p2, _, _, hv⟩ := y2.now; have y3 := y2; rw [hv] at e1 y3; clear y2; have e1q := e1; simp only [Array.getD_eq_getD_getElem?] at e1q; refine a_e.veil fun K hK => ?_; unfold a_e
   go_simp
   exact hK _ _ ⟨(b_ _ _).alloc (l_ _) _, fun V hV => ⟨_, y, y.cells p1 p2, rfl, CC.out.keep L _ _ _ _ _ ⟨d_, d_⟩ hV (heap_alloc_new _ _), rfl, y1, y3.go ((KeepX.of ((b_ _ _).alloc (l_ _) _)).trans hV)⟩⟩
  case xo10 =>
   refine a_s CC.out fun L a W hf hc hL hn ht => ?_; have e1 : a.tmps.getD 51 undef = (.slice (some ⟨gm, 0, none⟩) 1 1) := ht 1 k_ 51 rfl W (CC.out.refl L _); obtain ⟨g2, y, us, e2, h2, hul, y1, y2⟩ := ht 9 k_ 59 rfl W (CC.out.refl L _); refine h_z _ _ 29 rfl 74 i1 _ 3 64 underlying29 hj hy0 hy1 hy2 rfl d_ mc us (n := 1) e1 hml hc.2.2.1 e2 hul h2 d_ d_ ?_; intro v' w' ho hb; obtain ⟨A3, c3, rfl⟩ := a_j ho; exact ⟨hb, fun V hV => ⟨A3, c3, [x, y], rfl, s_, by intro z hz; simp at hz; rcases hz with rfl | rfl <;> assumption, (i_d (vss := [mc, us]) (xs := [x, y]) (by simpa using ho) d_ d_ rfl (by intro z hz; simp at hz; rcases hz with rfl | rfl <;> assumption) (fun i h h' => by match i, h with | 0, _ => exact hc.2.2.2.go (KeepX.of hb) | 1, _ => exact y2.go (KeepX.of hb))).go hV⟩⟩
  case xo11 =>
   refine a_s CC.out fun L a W hf hc hL hn ht => ?_; refine q_b ?_; intro e1; refine a_e.veil fun K hK => ?_; unfold a_e
   go_simp
   exact d_d
  case xo12 =>
   intro L a W hf hc hL hn ht; obtain ⟨B, d, xs, e1, h1, h2, h3⟩ := (ht 10 k_).2 60 rfl W (CC.out.refl L _); have e2 : a.tmps.getD 61 undef = .pointer (some ⟨b, 2, none⟩) := (ht 11 k_).2 61 rfl W (CC.out.refl L _); have hL10 := (ht 10 k_).1; obtain ⟨_, f1, f2⟩ := DGood.frees hc.1 2 d_; refine a_e.veil fun K hK => ?_; unfold a_e
   go_simp
   exact hK _ _ ⟨⟨DGood.putm hc.1 h3 h2 o_, fun h => by simp [e_b, hL10] at h, (DGood.ofs hc.1 2 _).block _ _ hc.2.2.1 (nXB d_ d_), hc.2.2.2.go (DGood.ofs hc.1 2 _)⟩, DGood.ofs hc.1 2 _, fun h => by cases h⟩
  case xhc0 => exact ⟨hg.drew, fun _ => hc9, hm9, hM9.go (KeepX.of (Below.drew (b_ _ _)))⟩
  case xhend =>
   intro V W1 L hg1 _ _; simp only [c_V, List.setIfInBounds_toArray, List.set_cons_zero, List.set_cons_succ]
   go_wp2_with fail
   go_meet
   exact hg1.1
 case rest =>
 clear hg W0
 rename DGood w b _ => hg
 rename World => W0
 go_upto_if 64 with fail
 go_cut [] from 64 (fun wx => DGood w b wx)
 case first =>
  clear HV
  go_wp2_with fail
  rotate_left
  ·go_meet
   exact hg
  have hb0 : Below W0.heap.size W0 (W0.alloc (.cells #[str [102], str [102], str [103], str [99, 111, 114, 101, 46, 102]] 9)) := (b_ _ _).alloc (l_ _) _
  refine (HA.out _ _ (hg.go hb0).bel).mono ?_
  rintro e w1 ⟨⟨n1, rfl, p1, p2⟩, hb1⟩
  obtain ⟨k1, hk1, hk2, hk3⟩ := j_N p1
  have hs1 := (hb1.block _ s_).trans (a_M W0 (.cells #[str [102], str [102], str [103], str [99, 111, 114, 101, 46, 102]] 9) _ rfl)
  obtain ⟨s1, hm1, hc1⟩ := j_x (l := [ [102], [102], [103], [99, 111, 114, 101, 46, 102]]) hs1 hk3
  have hl1 : s1.length ≤ maxLen := d_g hm1 (by simp [maxLen])
  replace hg := (hg.go hb0).go hb1
  clear p1 p2 hs1 hb0 hb1 hm1 hk3
  go_wp2_with fail
  clear hk1 hk2 hc1
  have hb2 : Below w1.heap.size w1 ((w1.alloc (.cells #[.int .i64 1, .int .i64 0, .int .i64 0, str [], str [118], .int .i64 0, .int .i64 21, .int .i64 0, .int .i64 0, str [], str s1, .int .i64 1] 72)).alloc (.cells #[str [111, 114, 100, 101, 114, 115], str [111, 114, 100, 101, 114, 115], str [99, 111, 114, 101, 46, 111, 114, 100, 101, 114, 115], str [112, 97, 115, 116]] 9)) := ((b_ _ _).alloc (l_ _) _).alloc s_ _
  refine (HA.out _ _ (hg.go hb2).bel).mono ?_
  rintro e w2 ⟨⟨n2, rfl, p1, p2⟩, hb3⟩
  obtain ⟨k2, hk1, hk2, hk3⟩ := j_N p1
  have hs1 := (hb3.block _ s_).trans (a_M (w1.alloc (.cells #[.int .i64 1, .int .i64 0, .int .i64 0, str [], str [118], .int .i64 0, .int .i64 21, .int .i64 0, .int .i64 0, str [], str s1, .int .i64 1] 72)) (.cells #[str [111, 114, 100, 101, 114, 115], str [111, 114, 100, 101, 114, 115], str [99, 111, 114, 101, 46, 111, 114, 100, 101, 114, 115], str [112, 97, 115, 116]] 9) (w1.heap.size + 1) s_)
  have hn1 := (hb3.block w1.heap.size m_).trans (a_K (o := .cells #[str [111, 114, 100, 101, 114, 115], str [111, 114, 100, 101, 114, 115], str [99, 111, 114, 101, 46, 111, 114, 100, 101, 114, 115], str [112, 97, 115, 116]] 9) (a_M w1 (.cells #[.int .i64 1, .int .i64 0, .int .i64 0, str [], str [118], .int .i64 0, .int .i64 21, .int .i64 0, .int .i64 0, str [], str s1, .int .i64 1] 72) _ rfl))
  have hN := h_C (es := [⟨1, vl0, [118], 0⟩, ⟨21, vl0, s1, 1⟩]) hn1 (nXB d_ d_)
  obtain ⟨s2, hm2, hc1⟩ := j_x (l := [ [111, 114, 100, 101, 114, 115], [111, 114, 100, 101, 114, 115], [99, 111, 114, 101, 46, 111, 114, 100, 101, 114, 115], [112, 97, 115, 116]]) hs1 hk3
  have hl2 : s2.length ≤ maxLen := d_g hm2 (by simp [maxLen])
  replace hg := (hg.go hb2).go hb3
  generalize w1.heap.size = g1 at *
  clear p1 p2 hs1 hb2 hb3 hm2 hn1 hk3 w1
  go_wp2_with fail
  clear hk1 hk2 hc1
  obtain ⟨sa, sb, va, vb, hS, ha6, hb6, hsa, hsb, hSa, hSb⟩ := j_b hN hl1 hl2
  have hb4 : Below w2.heap.size w2 ((w2.alloc (.cells #[str [119], .int .i64 0, str [], .int .i64 0, .slice (some ⟨g1, 0, none⟩) 2 2] 135)).alloc (.cells #[.int .i64 0, str s2, .slice none 0 0, .slice none 0 0, .slice none 0 0, .slice none 0 0, .int .i64 2, str [], .slice none 0 0, .slice none 0 0, .slice (some ⟨w2.heap.size, 0, none⟩) 1 1, .slice none 0 0] 129)) := ((b_ _ _).alloc (l_ _) _).alloc s_ _
  replace hg := hg.go hb4
  generalize ((w2.alloc (.cells #[str [119], .int .i64 0, str [], .int .i64 0, .slice (some ⟨g1, 0, none⟩) 2 2] 135)).alloc (.cells #[.int .i64 0, str s2, .slice none 0 0, .slice none 0 0, .slice none 0 0, .slice none 0 0, .int .i64 2, str [], .slice none 0 0, .slice none 0 0, .slice (some ⟨w2.heap.size, 0, none⟩) 1 1, .slice none 0 0] 129)) = w3 at *
  generalize w2.heap.size + 1 = gs at *
  clear hN hl1 hl2 hb4
  refine (HA.out _ _ hg.bel).mono ?_
  rintro e w4 ⟨⟨n3, rfl, p1, p2⟩, hb5⟩
  replace hg := hg.go hb5
  replace hS := (hb5.block _ (a_6 hS)).trans hS
  replace hSa := hSa.go (KeepX.of hb5)
  replace hSb := hSb.go (KeepX.of hb5)
  clear p1 p2 hb5 w3
  go_upto_if 89 with fail
  go_cut [8] from 89 (fun s8 wx => DGood w b wx ∧ ∃ (B : Option Addr) (d : Nat) (ss : List Stp), s8 = .slice B ss.length d ∧ ss.length ≤ 3 ∧ (∀ s ∈ ss, s.ok) ∧ a_B XB (fun V => b_L V B ss) wx)
  case first =>
   go_wp2_with fail
   rotate_left
   ·go_meet
    exact ⟨hg, some ⟨gs, 0, none⟩, 2, [sa, sb], rfl, s_, by intro z hz; simp at hz; rcases hz with rfl | rfl <;> assumption, (h_F hS d_ d_ ha6 hb6 hSa hSb).mono fun V h => f_7 h⟩
   obtain ⟨i0, hi, hz0, hz1, hz2⟩ := info_parts Tryz.info_stp9; refine (HP.out _).mono ?_; rintro e w5 ⟨rfl, rfl⟩
   go_wp2_with fail
   have hb5 : Below w4.heap.size w4 (w4.alloc (.cells d_Z 126)) := (b_ _ _).alloc (l_ _) _; refine (HE.out _ _ _ (hg.go hb5).bel (f_n (heap_alloc_new _ _)) d_ d_).mono ?_; rintro e w6 ⟨⟨v, rfl, B, d, es, rfl, q1, q2, q3⟩, hb6'⟩; have hb7 := a_9 hb6' hb5; replace hg := hg.go hb7; replace hS := (hb7.block _ (a_6 hS)).trans hS; replace hSa := hSa.go (KeepX.of hb7); replace hSb := hSb.go (KeepX.of hb7); obtain ⟨hck, hSc⟩ := n_l (d := d) q3 q1 q2; generalize w4.heap.size = gc at *; clear hb5 hb6' hb7 w4; have hnl : (va ++ vb).length = 2 * 6 := by simp [ha6, hb6]
   go_wp2_with (at_builtin; refine wpList_append_grows _ rfl _ _ 60 rfl 129 i0 _ 6 120 underlying60 hi hz0 hz1 hz2 rfl d_ (some ⟨gs, 0, none⟩) 2 2 (va ++ vb) rfl (fun h => by cases h) hnl (i_h (a_K hS)) ⟨w6.heap.size, 0, none⟩ 1 1 [.int .i64 1, str [], .slice none 0 0, .slice none 0 0, .slice none 0 0, .slice B es.length d] rfl rfl (by exact g_G (heap_alloc_new _ _)) c_ o_ d_ d_ ?_; intro v' w7 hown hgrow)
   obtain ⟨A3, c3, rfl⟩ := a_j hown; have hb8 : Below w6.heap.size w6 w7 := ((b_ _ _).alloc (l_ _) _).grown hgrow s_ (fun k h => by cases h)
   go_meet
   exact ⟨hg.go hb8, A3, c3, [sa, sb, ⟨1, [], [], [], [], es⟩], rfl, s_, by intro z hz; simp at hz; rcases hz with rfl | rfl | rfl <;> assumption, (i_d (vss := [va, vb, [.int .i64 1, str [], .slice none 0 0, .slice none 0 0, .slice none 0 0, .slice B es.length d]]) (xs := [sa, sb, ⟨1, [], [], [], [], es⟩]) (by simpa using hown) d_ d_ rfl (by intro z hz; simp at hz; rcases hz with rfl | rfl | rfl; exact ha6; exact hb6; rfl) (fun i h h' => by
    match i, h with
    | 0, _ => exact hSa.go (KeepX.of hb8)
    | 1, _ => exact hSb.go (KeepX.of hb8)
    | 2, _ => exact hSc.go (KeepX.of hb8))).mono fun V h => f_7 h⟩
  case rest =>
  clear hg hSa hSb hS hsa hsb ha6 hb6 w4
  obtain ⟨hg, Q, cq, ss, rfl, hss, hsk, hQ⟩ := hcut
  rename World => W0
  have CC := a_2 (k_I (C := fun _ W => DGood w b W ∧ a_B XB (fun V => b_L V Q ss) W) (fun _ _ _ _ h hb => ⟨h.1.go hb, h.2.go (KeepX.of hb)⟩))
  go_upto_region 16 with fail
  refine b_a (H := fun _ => KeepX XB) (C := fun _ W => DGood w b W ∧ a_B XB (fun V => b_L V Q ss) W) (R := fun i => match i with
   | 0 => vC (.slice Q ss.length cq)
   | 1 => vS [ [122, 48], [99, 111, 114, 101, 46, 122, 48]]
   | 2 => vC (.slice A l.length c)
   | 3 => vI 0 131072
   | 4 => vI 0 1
   | 5 => vP [ [122, 48], [99, 111, 114, 101, 46, 122, 48]]
   | 6 => vT [ [122, 48], [99, 111, 114, 101, 46, 122, 48]]
   | 7 => vC (.slice A l.length c)
   | 8 => vI 0 131072
   | 9 => vI 0 2
   | 10 => vG f_I (fun x : Mdl => x.ok ∧ x.query.length ≤ 64)
   | 11 => vR 1 8 f_I (fun x : Mdl => x.ok ∧ x.query.length ≤ 64)
   | 12 => vC (.pointer (some ⟨b, 3, none⟩))
   | _ => fun _ _ => True) (fun _ _ _ _ _ h k => h.trans k) rfl k_ ?yhc0 (c_a.all ?yhop) ?yhend
  case' yhop => refine ⟨?yo0, ?yo1, ?yo2, ?yo3, ?yo4, ?yo5, ?yo6, ?yo7, ?yo8, ?yo9, ?yo10, ?yo11, ?yo12, ?yo13, trivial⟩
  case yo0 =>
   exact c_H CC.out 8 rfl k_ (fun _ => rfl)
  case yo1 =>
   exact _am
  case yo2 =>
   exact m_H
  case yo3 =>
   refine a_s CC.out fun L a W hf hc hL hn ht => ?_; have e1 : a.tmps.getD 99 undef = (.slice A l.length c) := ht 2 k_ 99 rfl W (CC.out.refl L _); refine a_e.veil fun K hK => ?_; unfold a_e
   go_simp
   refine (HA.out _ _ hc.1.bel).mono ?_; exact p_K
  case yo4 =>
   exact d_5 CC.out (lo := 0) (hi := 131072) (fun n => n.tmod 2) 3 100 (fun a w n e n0 n1 => by go_simp) (fun n n0 n1 => ⟨by rw [Int.tmod_eq_emod_of_nonneg n0]; omega, by rw [Int.tmod_eq_emod_of_nonneg n0]; omega⟩) k_ rfl (fun _ _ h => h) rfl
  case yo5 =>
   exact b_V CC.out (⟨d_, d_⟩) _ 1 98 4 101 rfl k_ k_ rfl rfl rfl (fun _ _ h => h) rfl
  case yo6 =>
   exact c_u CC.out _ 5 102 rfl k_ rfl rfl rfl
  case yo7 =>
   exact m_H
  case yo8 =>
   refine a_s CC.out fun L a W hf hc hL hn ht => ?_; have e1 : a.tmps.getD 104 undef = (.slice A l.length c) := ht 7 k_ 104 rfl W (CC.out.refl L _); refine a_e.veil fun K hK => ?_; unfold a_e
   go_simp
   refine (HA.out _ _ hc.1.bel).mono ?_; exact p_K
  case yo9 =>
   exact d_5 CC.out (lo := 0) (hi := 131072) (fun n => n.tmod 3) 8 105 (fun a w n e n0 n1 => by go_simp) (fun n n0 n1 => ⟨by rw [Int.tmod_eq_emod_of_nonneg n0]; omega, by rw [Int.tmod_eq_emod_of_nonneg n0]; omega⟩) k_ rfl (fun _ _ h => h) rfl
  case yo10 =>
   refine a_s CC.out fun L a W hf hc hL hn ht => ?_; have e1 : a.tmps.getD 97 undef = (.slice Q ss.length cq) := ht 0 k_ 97 rfl W (CC.out.refl L _); obtain ⟨s, hs, e2⟩ := ht 6 k_ 103 rfl W (CC.out.refl L _); obtain ⟨p, e3, p0, p1⟩ := ht 9 k_ 106 rfl W (CC.out.refl L _); have e1q := e1; have e2q := e2; have e3q := e3; simp only [Array.getD_eq_getD_getElem?] at e1q e2q e3q; have hs2 := d_g hs (by simp [maxLen]); refine a_e.veil fun K hK => ?_; unfold a_e
   go_simp
   exact hK _ _ ⟨b_ _ _, fun V hV => ⟨⟨[109, 97], [], ss, [97, 116], s, p, [101, 97, 115, 116], 1⟩, _, rfl, ⟨⟨by simp [maxLen], hs2, s_, by show ss.length ≤ _; omega, hsk⟩, by show ss.length ≤ _; omega⟩, (hc.2.go hV).mono fun U h => ⟨(none, 0), (Q, cq), .inl rfl, h, rfl⟩⟩⟩
  case yo11 =>
   refine a_s CC.out fun L a W hf hc hL hn ht => ?_; obtain ⟨x, vs, e1, x1, x2⟩ := ht 10 k_ 107 rfl W (CC.out.refl L _); obtain ⟨p1, p2, _, _, hv⟩ := x2.now; have x3 := x2; rw [hv] at e1 x3; clear x2; have e1q := e1; simp only [Array.getD_eq_getD_getElem?] at e1q; have hb : Below W.heap.size W (W.alloc (.cells (x.cells p1 p2).toArray 62)) := (b_ _ _).alloc (l_ _) _; have hr := c_Y (k := 8) (C := f_I) (x := x) (vs := x.cells p1 p2) (heap_alloc_new W (.cells (x.cells p1 p2).toArray 62)) d_ d_ rfl (x3.go (KeepX.of hb)); refine a_e.veil fun K hK => ?_; unfold a_e
   go_simp
   exact hK _ _ ⟨hb, fun V hV => ⟨_, 1, [x], rfl, l_ _, by intro z hz; rw [List.mem_singleton.1 hz]; exact x1, hr.go hV⟩⟩
  case yo12 =>
   refine a_s CC.out fun L a W hf hc hL hn ht => ?_; refine q_b ?_; intro e1; refine a_e.veil fun K hK => ?_; unfold a_e
   go_simp
   exact d_d
  case yo13 =>
   intro L a W hf hc hL hn ht; obtain ⟨B, d, xs, e1, h1, h2, h3⟩ := (ht 11 k_).2 108 rfl W (CC.out.refl L _); have e2 : a.tmps.getD 109 undef = .pointer (some ⟨b, 3, none⟩) := (ht 12 k_).2 109 rfl W (CC.out.refl L _); obtain ⟨_, f1, f2⟩ := DGood.frees hc.1 3 d_; refine a_e.veil fun K hK => ?_; unfold a_e
   go_simp
   exact hK _ _ ⟨⟨DGood.putd hc.1 h3 (fun z hz => (h2 z hz).1) o_ (fun z hz => (h2 z hz).2), hc.2.go (DGood.ofs hc.1 3 _)⟩, DGood.ofs hc.1 3 _, fun h => by cases h⟩
  case yhc0 => exact ⟨hg.drew, hQ.go (KeepX.of (Below.drew (b_ _ _)))⟩
  case yhend =>
   intro V W1 L hg1 _ _; simp only [c_V, List.setIfInBounds_toArray, List.set_cons_zero, List.set_cons_succ]
   go_wp2_with fail
   go_meet
   exact hg1.1
 case rest =>
 clear hg W0
 rename DGood w b _ => hg
 rename World => W0
 go_upto_if 112 with fail
 go_cut [] from 112 (fun wx => DGood w b wx)
 case first =>
  clear HA HE HV HP
  obtain ⟨_, f1, f2⟩ := hg.frees 4 d_
  obtain ⟨l1, l2, l3⟩ := e_g hg.lt
  have l0 := hg.lt
  go_wp2_with fail
  ·go_meet
   rw [l_V l0]; have h1 := a_M W0 (.cells #[str [112, 97, 115, 116], str [111, 114, 100, 101, 114, 115]] 52) _ rfl; exact (hg.go ((b_ _ _).alloc (l_ _) _)).putn (xs := [⟨[112, 97, 115, 116], [111, 114, 100, 101, 114, 115]⟩]) (c_Y (vs := [str [112, 97, 115, 116], str [111, 114, 100, 101, 114, 115]]) h1 d_ d_ rfl (a_B.pure rfl)) (by intro x hx; rw [List.mem_singleton.1 hx]; constructor <;> simp [maxLen]) s_
  ·go_meet
   exact hg
 case rest =>
 clear hg W0
 rename DGood w b _ => hg
 rename World => W0
 go_upto_if 118 with fail
 go_cut [] from 118 (fun wx => DGood w b wx)
 case first =>
  clear HV
  have CC := a_2 (k_I (C := fun _ W => DGood w b W) (fun _ _ _ _ h hb => h.go hb))
  go_upto_region 20 with fail
  rotate_left
  ·go_meet
   exact hg
  refine b_a (H := fun _ => KeepX XB) (C := fun _ W => DGood w b W) (R := fun i => match i with
   | 0 => vS [ [109, 97], [111, 114, 100, 101, 114, 115], [99, 111, 114, 101, 46, 111, 114, 100, 101, 114, 115]]
   | 1 => vC (.slice A l.length c)
   | 2 => vI 0 131072
   | 3 => vI 0 2
   | 4 => vP [ [109, 97], [111, 114, 100, 101, 114, 115], [99, 111, 114, 101, 46, 111, 114, 100, 101, 114, 115]]
   | 5 => vT [ [109, 97], [111, 114, 100, 101, 114, 115], [99, 111, 114, 101, 46, 111, 114, 100, 101, 114, 115]]
   | 6 => vK
   | 7 => vC (.slice A l.length c)
   | 8 => vE
   | 9 => vC (.slice A l.length c)
   | 10 => vI 0 131072
   | 11 => vI 0 2
   | 12 => vG f_h Chk.ok
   | 13 => vS [ [99]]
   | 14 => vS [ [99]]
   | 15 => vG f_h Chk.ok
   | 16 => vR 2 14 f_h Chk.ok
   | 17 => vC (.pointer (some ⟨b, 5, none⟩))
   | _ => fun _ _ => True) (fun _ _ _ _ _ h k => h.trans k) rfl k_ ?zhc0 (c_a.all ?zhop) ?zhend
  case' zhop => refine ⟨?zo0, ?zo1, ?zo2, ?zo3, ?zo4, ?zo5, ?zo6, ?zo7, ?zo8, ?zo9, ?zo10, ?zo11, ?zo12, ?zo13, ?zo14, ?zo15, ?zo16, ?zo17, ?zo18, trivial⟩
  case zo0 =>
   exact _am
  case zo1 =>
   exact m_H
  case zo2 =>
   refine a_s CC.out fun L a W hf hc hL hn ht => ?_; have e1 : a.tmps.getD 120 undef = (.slice A l.length c) := ht 1 k_ 120 rfl W (CC.out.refl L _); refine a_e.veil fun K hK => ?_; unfold a_e
   go_simp
   refine (HA.out _ _ hc.bel).mono ?_; exact p_K
  case zo3 =>
   exact d_5 CC.out (lo := 0) (hi := 131072) (fun n => n.tmod 3) 2 121 (fun a w n e n0 n1 => by go_simp) (fun n n0 n1 => ⟨by rw [Int.tmod_eq_emod_of_nonneg n0]; omega, by rw [Int.tmod_eq_emod_of_nonneg n0]; omega⟩) k_ rfl (fun _ _ h => h) rfl
  case zo4 =>
   exact b_V CC.out (⟨d_, d_⟩) _ 0 119 3 122 rfl k_ k_ rfl rfl rfl (fun _ _ h => h) rfl
  case zo5 =>
   exact c_u CC.out _ 4 123 rfl k_ rfl rfl rfl
  case zo6 =>
   refine a_s CC.out fun L a W hf hc hL hn ht => ?_; refine a_e.veil fun K hK => ?_; unfold a_e
   go_simp
   refine (HP.out _).mono ?_; rintro e w1 ⟨rfl, rfl⟩; exact ⟨_, rfl, hK _ _ ⟨(b_ _ _).alloc (l_ _) _, fun V hV => ⟨_, rfl, CC.out.keep L _ _ _ _ _ ⟨d_, d_⟩ hV (heap_alloc_new _ _)⟩⟩⟩
  case zo7 =>
   exact m_H
  case zo8 =>
   refine a_s CC.out fun L a W hf hc hL hn ht => ?_; obtain ⟨g, e1, hgg⟩ := ht 6 k_ 125 rfl W (CC.out.refl L _); have e2 : a.tmps.getD 126 undef = (.slice A l.length c) := ht 7 k_ 126 rfl W (CC.out.refl L _); refine a_e.veil fun K hK => ?_; unfold a_e
   go_simp
   refine (HE.out _ _ _ hc.bel (f_n hgg) d_ d_).mono ?_; rintro e w1 ⟨⟨v, rfl, B, d, es, rfl, p1, p2, p3⟩, hb1⟩; exact ⟨_, rfl, hK _ _ ⟨hb1, fun V hV => ⟨B, d, es, rfl, p1, p2, p3.go hV⟩⟩⟩
  case zo9 =>
   exact m_H
  case zo10 =>
   refine a_s CC.out fun L a W hf hc hL hn ht => ?_; have e1 : a.tmps.getD 128 undef = (.slice A l.length c) := ht 9 k_ 128 rfl W (CC.out.refl L _); refine a_e.veil fun K hK => ?_; unfold a_e
   go_simp
   refine (HA.out _ _ hc.bel).mono ?_; exact p_K
  case zo11 =>
   exact d_5 CC.out (lo := 0) (hi := 131072) (fun n => n.tmod 3) 10 129 (fun a w n e n0 n1 => by go_simp) (fun n n0 n1 => ⟨by rw [Int.tmod_eq_emod_of_nonneg n0]; omega, by rw [Int.tmod_eq_emod_of_nonneg n0]; omega⟩) k_ rfl (fun _ _ h => h) rfl
  case zo12 =>
   refine a_s CC.out fun L a W hf hc hL hn ht => ?_; obtain ⟨s, hs, e1⟩ := ht 5 k_ 124 rfl W (CC.out.refl L _); obtain ⟨B, d, es, e2, h1, h2, h3⟩ := ht 8 k_ 127 rfl W (CC.out.refl L _); obtain ⟨p, e3, p0, p1⟩ := ht 11 k_ 130 rfl W (CC.out.refl L _); have e1q := e1; have e2q := e2; have e3q := e3; simp only [Array.getD_eq_getD_getElem?] at e1q e2q e3q; have hs2 := d_g hs (by simp [maxLen]); refine a_e.veil fun K hK => ?_; unfold a_e
   go_simp
   exact hK _ _ ⟨b_ _ _, fun V hV => ⟨⟨[99, 97], s, 4, [], [], [], 0, 0, es, 0, 0, 0, 0, p⟩, _, rfl, ⟨by simp [maxLen], hs2, by simp [maxLen], s_, s_, by show es.length ≤ _; omega, h2⟩, ((b_n (c := 0)).and ((b_n (c := 0)).and (h3.go hV))).mono fun U h => ⟨(none, 0), (none, 0), (B, d), h.1, h.2.1, h.2.2, rfl⟩⟩⟩
  case zo13 =>
   exact _am
  case zo14 =>
   exact _am
  case zo15 =>
   refine a_s CC.out fun L a W hf hc hL hn ht => ?_; obtain ⟨g1, e1, h1⟩ := ht 13 k_ 132 rfl W (CC.out.refl L _); obtain ⟨g2, e2, h2⟩ := ht 14 k_ 133 rfl W (CC.out.refl L _); have e1q := e1; have e2q := e2; simp only [Array.getD_eq_getD_getElem?] at e1q e2q; refine a_e.veil fun K hK => ?_; unfold a_e
   go_simp
   exact hK _ _ ⟨b_ _ _, fun V hV => ⟨⟨[99, 98], [111, 114, 100, 101, 114, 115], 3, [ [99]], [111, 114, 100, 101, 114, 115], [ [99]], 0, 0, [], 0, 0, 0, 0, 1⟩, _, rfl, ⟨by simp [maxLen], by simp [maxLen], by simp [maxLen], s_, s_, s_, fun n hn => (List.not_mem_nil hn).elim⟩, (((b_t (l := [ [99]]) (c := 1) h1 (nXB d_ d_) d_).and (b_t (l := [ [99]]) (c := 1) h2 (nXB d_ d_) d_)).go hV).mono fun U h => ⟨(some ⟨g1, 0, none⟩, 1), (some ⟨g2, 0, none⟩, 1), (none, 0), h.1, h.2, .inl rfl, rfl⟩⟩⟩
  case zo16 =>
   refine a_s CC.out fun L a W hf hc hL hn ht => ?_; obtain ⟨x, vs, e1, x1, x2⟩ := ht 12 k_ 131 rfl W (CC.out.refl L _); obtain ⟨y, us, e2, y1, y2⟩ := ht 15 k_ 134 rfl W (CC.out.refl L _); obtain ⟨p1, p2, p3, _, _, _, hv⟩ := x2.now; obtain ⟨q1, q2, q3, _, _, _, hu⟩ := y2.now; have x3 := x2; have y3 := y2; rw [hv] at e1 x3; rw [hu] at e2 y3; clear x2 y2; have e1q := e1; have e2q := e2; simp only [Array.getD_eq_getD_getElem?] at e1q e2q; have hb : Below W.heap.size W (W.alloc (.cells (x.cells p1 p2 p3 ++ y.cells q1 q2 q3).toArray 67)) := (b_ _ _).alloc (l_ _) _; have hr := h_F (k := 14) (C := f_h) (x := x) (y := y) (vs := x.cells p1 p2 p3) (us := y.cells q1 q2 q3) (heap_alloc_new W (.cells (x.cells p1 p2 p3 ++ y.cells q1 q2 q3).toArray 67)) d_ d_ rfl rfl (x3.go (KeepX.of hb)) (y3.go (KeepX.of hb)); refine a_e.veil fun K hK => ?_; unfold a_e
   go_simp
   exact hK _ _ ⟨hb, fun V hV => ⟨_, 2, [x, y], rfl, l_ _, by intro z hz; simp at hz; rcases hz with rfl | rfl <;> assumption, hr.go hV⟩⟩
  case zo17 =>
   refine a_s CC.out fun L a W hf hc hL hn ht => ?_; refine q_b ?_; intro e1; refine a_e.veil fun K hK => ?_; unfold a_e
   go_simp
   exact d_d
  case zo18 =>
   intro L a W hf hc hL hn ht; obtain ⟨B, d, xs, e1, h1, h2, h3⟩ := (ht 16 k_).2 135 rfl W (CC.out.refl L _); have e2 : a.tmps.getD 136 undef = .pointer (some ⟨b, 5, none⟩) := (ht 17 k_).2 136 rfl W (CC.out.refl L _); obtain ⟨_, f1, f2⟩ := DGood.frees hc 5 d_; refine a_e.veil fun K hK => ?_; unfold a_e
   go_simp
   exact hK _ _ ⟨DGood.putc hc h3 h2 o_, DGood.ofs hc 5 _, fun h => by cases h⟩
  case zhc0 => exact hg.drew
  case zhend =>
   intro V W1 L hg1 _ _; simp only [c_V, List.setIfInBounds_toArray, List.set_cons_zero, List.set_cons_succ]
   go_wp2_with fail
   go_meet
   exact hg1
 case rest =>
 clear hg W0
 rename DGood w b _ => hg
 rename World => W0
 obtain ⟨d, a, h1, h2, h3⟩ := hg.box
 have h0 := hg.res
 have hb := hg.bel
 have hlt := hg.lt
 have hz := a_0 h1
 have c0 := hz 0; have c1 := hz 1; have c2 := hz 2; have c3 := hz 3; have c4 := hz 4; have c5 := hz 5
 simp at c0 c1 c2 c3 c4 c5
 have hf := a_C h0
 have hy := a_0 h0
 have y0 := hy 0; have y1 := hy 1; have y2 := hy 2; have y3 := hy 3; have y4 := hy 4; have y5 := hy 5
 simp at y0 y1 y2 y3 y4 y5
 have f0 := hf 0; have f1 := hf 1; have f2 := hf 2; have f3 := hf 3; have f4 := hf 4; have f5 := hf 5
 clear hz hy hf HA HE HV HP hg
 go_wp2_with fail
 exact l_Z rfl rfl (r_t h0 _ _ _ _ _ _) ⟨⟨d, a, rfl, h2, h3.go (q_U h0 _ _ _ _ _ _)⟩, s_Q hb (l_ _) _ _ _ _ _ _⟩
set_option maxRecDepth 512
def XC (k : Nat) (o : Obj) : Prop := XT 67 k o ∨ XB k o
theorem nXC {k : Nat} {cs : Array Value} {t : TypeId} {r : Nat × Nat} (h1 : t ≠ 67) (h2 : t ≠ 34) (h3 : t ≠ 36) : ¬ XC k (.cells cs t r) := fun h => h.elim (nXT h1) (nXB h2 h3)
theorem c_J {W : World} {g j : Nat} {v : Value} (h : ∃ cs r, W.heap[g]? = some (.cells cs 67 r)) : KeepX XC W (W.setCell ⟨g, j, none⟩ v) ∧ ∃ cs r, (W.setCell ⟨g, j, none⟩ v).heap[g]? = some (.cells cs 67 r) := ⟨(i_w h).1.grow fun _ _ _ h => .inl h, (i_w h).2⟩
theorem p_D {C : (Nat → Bool) → World → Prop} (hC : ∀ i L w w', C L w → Below w.heap.size w w' → C (e_b i L) w') : Lull (fun _ => KeepX XC) C (fun t => t ≠ 67 ∧ t ≠ 34 ∧ t ≠ 36) where
 refl := fun _ w => KeepX.refl _ w
 anti := fun _ _ _ _ h => h
 grow := fun _ _ _ h => KeepX.of h
 keep := fun _ _ _ g cs t ht h hg => h.block g _ hg (nXC ht.1 ht.2.1 ht.2.2)
 next := hC
theorem p_s {W : World} {g : Nat} {x0 x1 x2 x3 x4 x5 x6 x7 x8 x9 x10 x11 x12 x13 : Value} {t : TypeId} (h : W.heap[g]? = some (.cells #[x0, x1, x2, x3, x4, x5, x6, x7, x8, x9, x10, x11, x12, x13] t)) (v0 v1 v2 v3 v4 v5 v6 v7 v8 v9 v10 v11 v12 v13 : Value) : ((((((((((((((W.setCell ⟨g, 0, none⟩ v0).setCell ⟨g, 1, none⟩ v1).setCell ⟨g, 2, none⟩ v2).setCell ⟨g, 3, none⟩ v3).setCell ⟨g, 4, none⟩ v4).setCell ⟨g, 5, none⟩ v5).setCell ⟨g, 6, none⟩ v6).setCell ⟨g, 7, none⟩ v7).setCell ⟨g, 8, none⟩ v8).setCell ⟨g, 9, none⟩ v9).setCell ⟨g, 10, none⟩ v10).setCell ⟨g, 11, none⟩ v11).setCell ⟨g, 12, none⟩ v12).setCell ⟨g, 13, none⟩ v13).heap[g]? = some (.cells #[v0, v1, v2, v3, v4, v5, v6, v7, v8, v9, v10, v11, v12, v13] t) := by
 have h9 := a_t (j := 13) (v := v13) (a_t (j := 12) (v := v12) (a_t (j := 11) (v := v11) (a_t (j := 10) (v := v10) (a_t (j := 9) (v := v9) (a_t (j := 8) (v := v8) (a_t (j := 7) (v := v7) (a_t (j := 6) (v := v6) (a_t (j := 5) (v := v5) (a_t (j := 4) (v := v4) (a_t (j := 3) (v := v3) (a_t (j := 2) (v := v2) (a_t (j := 1) (v := v1) (a_t (j := 0) (v := v0) (h))))))))))))))
 simpa using h9
theorem p_n {W : World} {g : Nat} {cs : Array Value} (h : W.heap[g]? = some (.cells cs 67)) (v0 v1 v2 v3 v4 v5 v6 v7 v8 v9 v10 v11 v12 v13 : Value) : KeepX XC W ((((((((((((((W.setCell ⟨g, 0, none⟩ v0).setCell ⟨g, 1, none⟩ v1).setCell ⟨g, 2, none⟩ v2).setCell ⟨g, 3, none⟩ v3).setCell ⟨g, 4, none⟩ v4).setCell ⟨g, 5, none⟩ v5).setCell ⟨g, 6, none⟩ v6).setCell ⟨g, 7, none⟩ v7).setCell ⟨g, 8, none⟩ v8).setCell ⟨g, 9, none⟩ v9).setCell ⟨g, 10, none⟩ v10).setCell ⟨g, 11, none⟩ v11).setCell ⟨g, 12, none⟩ v12).setCell ⟨g, 13, none⟩ v13) := by
 obtain ⟨k0, h0⟩ := c_J (j := 0) (v := v0) ⟨_, _, h⟩
 obtain ⟨k1, h1⟩ := c_J (j := 1) (v := v1) h0
 obtain ⟨k2, h2⟩ := c_J (j := 2) (v := v2) h1
 obtain ⟨k3, h3⟩ := c_J (j := 3) (v := v3) h2
 obtain ⟨k4, h4⟩ := c_J (j := 4) (v := v4) h3
 obtain ⟨k5, h5⟩ := c_J (j := 5) (v := v5) h4
 obtain ⟨k6, h6⟩ := c_J (j := 6) (v := v6) h5
 obtain ⟨k7, h7⟩ := c_J (j := 7) (v := v7) h6
 obtain ⟨k8, h8⟩ := c_J (j := 8) (v := v8) h7
 obtain ⟨k9, h9⟩ := c_J (j := 9) (v := v9) h8
 obtain ⟨k10, h10⟩ := c_J (j := 10) (v := v10) h9
 obtain ⟨k11, h11⟩ := c_J (j := 11) (v := v11) h10
 obtain ⟨k12, h12⟩ := c_J (j := 12) (v := v12) h11
 obtain ⟨k13, h13⟩ := c_J (j := 13) (v := v13) h12
 exact k0.trans (k1.trans (k2.trans (k3.trans (k4.trans (k5.trans (k6.trans (k7.trans (k8.trans (k9.trans (k10.trans (k11.trans (k12.trans (k13)))))))))))))
theorem q_v {B g : Nat} {w W : World} (h : Below B w W) (hb : B ≤ g) (v0 v1 v2 v3 v4 v5 v6 v7 v8 v9 v10 v11 v12 v13 : Value) : Below B w ((((((((((((((W.setCell ⟨g, 0, none⟩ v0).setCell ⟨g, 1, none⟩ v1).setCell ⟨g, 2, none⟩ v2).setCell ⟨g, 3, none⟩ v3).setCell ⟨g, 4, none⟩ v4).setCell ⟨g, 5, none⟩ v5).setCell ⟨g, 6, none⟩ v6).setCell ⟨g, 7, none⟩ v7).setCell ⟨g, 8, none⟩ v8).setCell ⟨g, 9, none⟩ v9).setCell ⟨g, 10, none⟩ v10).setCell ⟨g, 11, none⟩ v11).setCell ⟨g, 12, none⟩ v12).setCell ⟨g, 13, none⟩ v13) := ((((((((((((((h.setCell hb _).setCell hb _).setCell hb _).setCell hb _).setCell hb _).setCell hb _).setCell hb _).setCell hb _).setCell hb _).setCell hb _).setCell hb _).setCell hb _).setCell hb _).setCell hb _)
theorem l_0 {R : Ending → World → Prop} {a : Act} {W : World} {b : Nat} {v0 v1 v2 v3 v4 v5 v6 v7 v8 v9 v10 v11 v12 v13 : Value} {t : TypeId} (ht : a.tmps[4]? = some (.pointer (some ⟨b, 0, none⟩))) (hd : a.defers = []) (hW : W.heap[b]? = some (.cells #[v0, v1, v2, v3, v4, v5, v6, v7, v8, v9, v10, v11, v12, v13] t))
  (hR : R (.returned (.agg #[v0, v1, v2, v3, v4, v5, v6, v7, v8, v9, v10, v11, v12, v13])) W) : bodyPost prog Tryz.f16 R .ret a W := by
 refine s_n ?_; intro s0 s1 s2 s3 s4 s5
 have s6 := a_0 hW 6
 have s7 := a_0 hW 7
 have s8 := a_0 hW 8
 have s9 := a_0 hW 9
 have s10 := a_0 hW 10
 have s11 := a_0 hW 11
 have s12 := a_0 hW 12
 have s13 := a_0 hW 13
 simp at s0 s1 s2 s3 s4 s5 s6 s7 s8 s9 s10 s11 s12 s13
 exact bodyPost_ret (v := .agg #[v0, v1, v2, v3, v4, v5, v6, v7, v8, v9, v10, v11, v12, v13]) (by simp [results, results16, go_sem, ht, s0, s1, s2, s3, s4, s5, s6, s7, s8, s9, s10, s11, s12, s13]) hd hR
structure CkW (w : World) (cs : Array Value) (W : World) : Prop where
 res : W.heap[w.heap.size]? = some (.cells #[.string ⟨#[]⟩, .string ⟨#[]⟩, .int .i64 0, .slice none 0 0, .string ⟨#[]⟩, .slice none 0 0, .int .i64 0, .int .i64 0, .slice none 0 0, .int .i64 0, .int .i64 0, .int .i64 0, .int .i64 0, .int .i64 0] 67)
 box : W.heap[w.heap.size + 1]? = some (.cells cs 67)
 bel : Below w.heap.size w W
theorem CkW.go {w W V : World} {cs : Array Value} (h : CkW w cs W) (hb : Below W.heap.size W V) : CkW w cs V := ⟨(hb.block _ (a_6 h.res)).trans h.res, (hb.block _ (a_6 h.box)).trans h.box, a_9 hb h.bel⟩
theorem CkW.set {w W : World} {cs : Array Value} (h : CkW w cs W) (j : Nat) (v : Value) : CkW w (cs.setIfInBounds j v) (W.setCell ⟨w.heap.size + 1, j, none⟩ v) ∧ KeepX XC W (W.setCell ⟨w.heap.size + 1, j, none⟩ v) :=
 ⟨⟨(Below.heap_setCell _ _ _ _ s_).trans h.res, a_t h.box, h.bel.setCell s_ _⟩, (c_J ⟨_, _, h.box⟩).1⟩
theorem CkW.free {w W : World} {cs : Array Value} (h : CkW w cs W) (hs : cs.size = 14) (j : Nat) (hj : j < 14) : ∃ v, W.cell? ⟨w.heap.size + 1, j, none⟩ = some v ∧ W.frozen? ⟨w.heap.size + 1, j, none⟩ = false :=
 ⟨cs[j], by rw [a_0 h.box]; simp [hs, hj], a_C h.box j⟩
def j_j (w W : World) : Prop := ∃ (x : Chk) (p q r : Pl), CkW w (x.cells p q r).toArray W ∧ x.ok ∧ a_B XC (fun U => b_9 U p x.cols ∧ b_9 U q x.ocols ∧ b_q U r.1 x.cond) W
theorem m_1 {g m : Nat} {W : World} (hg : W.heap[g]? = some (.cells #[str [120], str [121], str [122]] 9)) (hm : m ≤ 3) : ∃ ls : List a_3, m = ls.length ∧ a_B XC (fun V => b_9 V (some ⟨g, 0, none⟩, 3) ls) W := ⟨[ [120], [121], [122]].take m, m_, a_B.blk hg (nXC d_ d_ d_) fun V hv => ⟨b_F (a_6 hv) (l := [ [120], [121], [122]]) (fun j hj => by
  rw [Nat.zero_add, a_0 hv]
  match j, hj with
  | 0, _ => rfl
  | 1, _ => rfl
  | 2, _ => rfl) m, m_⟩⟩
theorem i_U (kind lo hi ln ld mn md pol : Int) {ls oc : List a_3} {other : a_3} {cond : List Nd} (h1 : ls.length ≤ 3) (h2 : oc.length ≤ 3) (h3 : other.length ≤ 10) (h4 : cond = [] ∨ cond = [⟨0, ⟨1, 1, []⟩, [], 0⟩]) : (⟨[99, 99], [111, 114, 100, 101, 114, 115], kind, ls, other, oc, lo, hi, cond, ln, ld, mn, md, pol⟩ : Chk).ok :=
 ⟨by simp [maxLen], by simp [maxLen], by show other.length ≤ _; unfold maxLen; omega, by show ls.length ≤ _; omega, by show oc.length ≤ _; omega, by show cond.length ≤ _; rcases h4 with rfl | rfl <;> simp, by show b_Q cond; rcases h4 with rfl | rfl <;> intro n hn <;> simp at hn; subst hn; simp [maxLen]⟩
theorem lx3 {X : Nat → Obj → Prop} {F G H : World → Prop} {w : World} (a : a_B X F w) (b : a_B X G w) (c : a_B X H w) : a_B X (fun U => F U ∧ G U ∧ H U) w := a.and (b.and c)
theorem e_W {X : Nat → Obj → Prop} {A : Option Addr} {w : World} : a_B X (fun U => b_q U A []) w := fun _ _ => .inl rfl
set_option maxRecDepth 100000
theorem b_6 (kind k : Int) (h0 : 0 ≤ k) (h1 : k ≤ 15) (w : World) :
  Calls prog 16 #[.int .i64 kind, .int .i64 k] w fun e w' => (∃ (x : Chk) (p q r : Pl), e = .returned (.agg (x.cells p q r).toArray) ∧ x.ok ∧ a_B XC (fun U => f_h U x (x.cells p q r)) w') ∧ Below w.heap.size w w' := by
 go_enter func16, ntmps16
 go_upto_region 3 with fail
 generalize hp : bits BinOp.and IntKind.i64 k 3 = pol at *
 clear hp
 have hw : CkW w #[str [99, 99], str [111, 114, 100, 101, 114, 115], .int .i64 kind, .slice none 0 0, str [], .slice none 0 0, .int .i64 0, .int .i64 0, .slice none 0 0, .int .i64 0, .int .i64 0, .int .i64 0, .int .i64 0, .int .i64 pol] (((w.alloc (.cells #[.string ⟨#[]⟩, .string ⟨#[]⟩, .int .i64 0, .slice none 0 0, .string ⟨#[]⟩, .slice none 0 0, .int .i64 0, .int .i64 0, .slice none 0 0, .int .i64 0, .int .i64 0, .int .i64 0, .int .i64 0, .int .i64 0] 67)).alloc (.cells #[str [99, 99], str [111, 114, 100, 101, 114, 115], .int .i64 kind, .slice none 0 0, str [], .slice none 0 0, .int .i64 0, .int .i64 0, .slice none 0 0, .int .i64 0, .int .i64 0, .int .i64 0, .int .i64 0, .int .i64 pol] 67)).alloc (.cells #[.int .i64 0, .int .i64 1, .int .i64 1, .string ⟨#[]⟩, .string ⟨#[]⟩, .int .i64 0] 72)) := ⟨a_K (a_K (a_M _ _ _ rfl)), a_K (a_M _ _ _ s_), ((((b_ _ _).alloc (l_ _) _).alloc s_ _).alloc m_ _)⟩
 have hcd := a_M ((w.alloc (.cells #[.string ⟨#[]⟩, .string ⟨#[]⟩, .int .i64 0, .slice none 0 0, .string ⟨#[]⟩, .slice none 0 0, .int .i64 0, .int .i64 0, .slice none 0 0, .int .i64 0, .int .i64 0, .int .i64 0, .int .i64 0, .int .i64 0] 67)).alloc (.cells #[str [99, 99], str [111, 114, 100, 101, 114, 115], .int .i64 kind, .slice none 0 0, str [], .slice none 0 0, .int .i64 0, .int .i64 0, .slice none 0 0, .int .i64 0, .int .i64 0, .int .i64 0, .int .i64 0, .int .i64 pol] 67)) (.cells #[.int .i64 0, .int .i64 1, .int .i64 1, .string ⟨#[]⟩, .string ⟨#[]⟩, .int .i64 0] 72) (w.heap.size + 1 + 1) s_
 generalize ((w.alloc (.cells #[.string ⟨#[]⟩, .string ⟨#[]⟩, .int .i64 0, .slice none 0 0, .string ⟨#[]⟩, .slice none 0 0, .int .i64 0, .int .i64 0, .slice none 0 0, .int .i64 0, .int .i64 0, .int .i64 0, .int .i64 0, .int .i64 0] 67)).alloc (.cells #[str [99, 99], str [111, 114, 100, 101, 114, 115], .int .i64 kind, .slice none 0 0, str [], .slice none 0 0, .int .i64 0, .int .i64 0, .slice none 0 0, .int .i64 0, .int .i64 0, .int .i64 0, .int .i64 0, .int .i64 pol] 67)).alloc (.cells #[.int .i64 0, .int .i64 1, .int .i64 1, .string ⟨#[]⟩, .string ⟨#[]⟩, .int .i64 0] 72) = W0 at *
 generalize w.heap.size + 1 + 1 = cd at *
 go_cut [7] from 15 (fun s7 wx => ∃ (g m : Nat), s7 = .slice (some ⟨g, 0, none⟩) m 3 ∧ m ≤ 3 ∧ wx.heap[g]? = some (.cells #[str [97], str [98], str [97]] 9) ∧ Below W0.heap.size W0 wx)
 case first =>
  have hk : k = 0 ∨ k = 1 ∨ k = 2 ∨ k = 3 ∨ k = 4 ∨ k = 5 ∨ k = 6 ∨ k = 7 ∨ k = 8 ∨ k = 9 ∨ k = 10 ∨ k = 11 ∨ k = 12 ∨ k = 13 ∨ k = 14 ∨ k = 15 := by omega
  clear h0 h1 hw hcd
  rcases hk with rfl | rfl | rfl | rfl | rfl | rfl | rfl | rfl | rfl | rfl | rfl | rfl | rfl | rfl | rfl | rfl
  all_goals
   go_wp2_with fail
   go_meet
   exact ⟨_, _, rfl, d_, heap_alloc_new _ _, (b_ _ _).alloc (l_ _) _⟩
 case rest =>
 obtain ⟨g, m, rfl, hm, hg, hb⟩ := hcut
 obtain ⟨ls, rfl, hN⟩ : ∃ ls : List a_3, m = ls.length ∧ a_B XC (fun V => b_9 V (some ⟨g, 0, none⟩, 3) ls) wc := ⟨[ [97], [98], [97]].take m, m_, a_B.blk hg (nXC d_ d_ d_) fun V hv => ⟨b_F (a_6 hv) (l := [ [97], [98], [97]]) (fun j hj => by
  rw [Nat.zero_add, a_0 hv]
  match j, hj with
  | 0, _ => rfl
  | 1, _ => rfl
  | 2, _ => rfl) m, m_⟩⟩
 replace hw := hw.go hb
 have hC : a_B XC (fun V => b_q V (some ⟨cd, 0, none⟩) [⟨0, ⟨1, 1, []⟩, [], 0⟩]) wc := h_C ((hb.block _ (a_6 hcd)).trans hcd) (nXC d_ d_ d_)
 clear hcd hb W0 hg
 rename CkW w _ _ => hw
 go_upto_region 4 with fail
 iterate 7 go_step
 go_cut [] from 21 (fun wx => j_j w wx)
 case first =>
  have f0 := hw.free rfl
  obtain ⟨_, f3, q3⟩ := f0 3 d_; obtain ⟨_, f4, q4⟩ := f0 4 d_; obtain ⟨_, f5, q5⟩ := f0 5 d_; obtain ⟨_, f6, q6⟩ := f0 6 d_; obtain ⟨_, f7, q7⟩ := f0 7 d_; obtain ⟨_, f8, q8⟩ := f0 8 d_; obtain ⟨_, f9, q9⟩ := f0 9 d_; obtain ⟨_, f10, q10⟩ := f0 10 d_; obtain ⟨_, f11, q11⟩ := f0 11 d_; obtain ⟨_, f12, q12⟩ := f0 12 d_
  clear f0
  have l0 := a_6 hw.box
  obtain ⟨l1, l2, l3⟩ := e_g l0
  go_wp2_with fail
  ·go_meet
   exact s_2
  ·go_meet
   exact s_2
  ·go_meet
   have s1 := hw.set 3 (.slice (some ⟨wc.heap.size, 0, none⟩) 1 1); have s2 := s1.1.set 6 (.int .i64 (k - 8)); have s3 := s2.1.set 7 (.int .i64 (4 - k / 2)); exact ⟨⟨[99, 99], [111, 114, 100, 101, 114, 115], kind, [ [118]], [], [], k - 8, 4 - k / 2, [], 0, 0, 0, 0, pol⟩, (some ⟨wc.heap.size, 0, none⟩, 1), (none, 0), (none, 0), s3.1.go ((b_ _ _).alloc (l_ _) _), i_U _ _ _ _ _ _ _ _ s_ s_ s_ (.inl rfl), lx3 (b_t (l := [ [118]]) (a_M _ _ _ (by simp [World.setCell])) (nXC d_ d_ d_) s_) b_n e_W⟩
  rotate_left
  ·go_meet
   exact ⟨⟨[99, 99], [111, 114, 100, 101, 114, 115], kind, [], [], [], 0, 0, [⟨0, ⟨1, 1, []⟩, [], 0⟩], 0, 0, 0, 0, pol⟩, (none, 0), (none, 0), (some ⟨cd, 0, none⟩, 1), (hw.set 8 _).1, i_U _ _ _ _ _ _ _ _ s_ s_ s_ (.inr rfl), (lx3 b_n b_n hC).go (hw.set 8 _).2⟩
  ·go_meet
   have s1 := hw.set 8 (.slice (some ⟨cd, 0, none⟩) 1 1); have s2 := s1.1.set 9 (.int .i64 (k / 4 - 1)); have s3 := s2.1.set 10 (.int .i64 4); have s4 := s3.1.set 11 (.int .i64 3); have s5 := s4.1.set 12 (.int .i64 (bits BinOp.and IntKind.i64 k 3)); exact ⟨⟨[99, 99], [111, 114, 100, 101, 114, 115], kind, [], [], [], 0, 0, [⟨0, ⟨1, 1, []⟩, [], 0⟩], k / 4 - 1, 4, 3, bits BinOp.and IntKind.i64 k 3, pol⟩, (none, 0), (none, 0), (some ⟨cd, 0, none⟩, 1), s5.1, i_U _ _ _ _ _ _ _ _ s_ s_ s_ (.inr rfl), (lx3 b_n b_n hC).go (s1.2.trans (s2.2.trans (s3.2.trans (s4.2.trans s5.2))))⟩
  ·go_meet
   have s1 := hw.set 3 (.slice (some ⟨wc.heap.size, 0, none⟩) 1 1); have s2 := s1.1.set 4 (str [114, 101, 116, 117, 114, 110, 115]); have s3 := s2.1.set 5 (.slice (some ⟨wc.heap.size + 1, 0, none⟩) 1 1); exact ⟨⟨[99, 99], [111, 114, 100, 101, 114, 115], kind, [ [118]], [114, 101, 116, 117, 114, 110, 115], [ [119]], 0, 0, [], 0, 0, 0, 0, pol⟩, (some ⟨wc.heap.size, 0, none⟩, 1), (some ⟨wc.heap.size + 1, 0, none⟩, 1), (none, 0), s3.1.go (((b_ _ _).alloc (l_ _) _).alloc s_ _), i_U _ _ _ _ _ _ _ _ s_ s_ s_ (.inl rfl), lx3 (b_t (l := [ [118]]) (a_K (a_M _ _ _ (by simp [World.setCell]))) (nXC d_ d_ d_) s_) (b_t (l := [ [119]]) (a_M _ _ _ (by simp [World.setCell])) (nXC d_ d_ d_) s_) e_W⟩
  ·go_meet
   exact ⟨⟨[99, 99], [111, 114, 100, 101, 114, 115], kind, [], [], [], 0, 0, [], 0, 0, 0, 0, pol⟩, (none, 0), (none, 0), (none, 0), hw, i_U _ _ _ _ _ _ _ _ s_ s_ s_ (.inl rfl), lx3 b_n b_n e_W⟩
  have hG : j_j w wc := ⟨⟨[99, 99], [111, 114, 100, 101, 114, 115], kind, [], [], [], 0, 0, [], 0, 0, 0, 0, pol⟩, (none, 0), (none, 0), (none, 0), hw, i_U _ _ _ _ _ _ _ _ s_ s_ s_ (.inl rfl), lx3 b_n b_n e_W⟩
  have CC := a_2 (p_D (C := fun _ W => j_j w W) (fun _ _ _ _ ⟨x, p, q, r, h1, h2, h3⟩ hb => ⟨x, p, q, r, h1.go hb, h2, h3.go (KeepX.of hb)⟩))
  clear f3 f4 f5 f6 f7 f8 f9 f10 f11 f12 q3 q4 q5 q6 q7 q8 q9 q10 q11 q12 l0 l1 l2 l3 hw hN hC
  refine b_a (H := fun _ => KeepX XC) (C := fun _ W => j_j w W) (R := fun i => match i with
   | 0 => vS [ [97], [98]]
   | 1 => vS [ [120], [121], [122]]
   | 2 => vC (.int .i64 k)
   | 3 => vI 0 1
   | 4 => vI 2 3
   | 5 => (fun W v => ∃ (g m : Nat), v = .slice (some ⟨g, 0, none⟩) m 3 ∧ m ≤ 3 ∧ W.heap[g]? = some (.cells #[str [120], str [121], str [122]] 9))
   | 6 => vC (.pointer (some ⟨w.heap.size + 1, 3, none⟩))
   | 8 => vC (.pointer (some ⟨w.heap.size + 1, 4, none⟩))
   | 10 => vC (.pointer (some ⟨w.heap.size + 1, 5, none⟩))
   | _ => fun _ _ => True) (fun _ _ _ _ _ h k => h.trans k) rfl k_ ?hc0 (c_a.all ?hop) ?hend
  case' hop => refine ⟨?o0, ?o1, ?o2, ?o3, ?o4, ?o5, ?o6, ?o7, ?o8, ?o9, ?o10, ?o11, trivial⟩
  case o0 =>
   exact _at
  case o1 =>
   exact _at
  case o2 =>
   exact c_H CC.out 1 rfl k_ (fun _ => rfl)
  case o3 =>
   exact d_5 CC.out (lo := 0) (hi := 15) (fun n => n / 8) 2 42 (fun a w n e n0 n1 => by go_simp) (fun n n0 n1 => ⟨o_, o_⟩) k_ rfl (fun _ _ h => e_n ⟨h0, h1⟩ _ _ h) rfl
  case o4 =>
   exact d_5 CC.out (lo := 0) (hi := 1) (fun n => 2 + n) 3 43 (fun a w n e n0 n1 => by have hw := IntWalk.i64_in (2 + n) o_; go_simp) (fun n n0 n1 => ⟨o_, o_⟩) k_ rfl (fun _ _ h => h) rfl
  case o5 =>
   refine a_s CC.out fun L a W hf hc hL hn ht => ?_; obtain ⟨g1, e1, hg1⟩ := ht 1 k_ 41 rfl W (CC.out.refl L _); obtain ⟨n, e2, n0, n1⟩ := ht 4 k_ 44 rfl W (CC.out.refl L _); obtain ⟨m, rfl⟩ := Int.eq_ofNat_of_zero_le (show 0 ≤ n by omega); have e1 : a.tmps.getD 41 undef = .slice (some ⟨g1, 0, none⟩) 3 3 := e1; refine a_e.veil fun K hK => ?_; unfold a_e
   go_simp
   exact hK _ _ ⟨b_ _ _, fun V hV => ⟨g1, m, rfl, o_, CC.out.keep L _ _ _ _ _ (⟨d_, d_, d_⟩) hV hg1⟩⟩
  case o6 =>
   refine a_s CC.out fun L a W hf hc hL hn ht => ?_; refine r_4 ?_; intro e1; refine a_e.veil fun K hK => ?_; unfold a_e
   go_simp
   exact d_d
  case o7 =>
   intro L a W hf hc hL hn ht; obtain ⟨x, p, q, r, hw, hx, hl⟩ := hc; have e2 : a.tmps.getD 46 undef = .pointer (some ⟨w.heap.size + 1, 3, none⟩) := (ht 6 k_).2 46 rfl W (CC.out.refl L _); obtain ⟨g1, e1, hg1⟩ := (ht 0 k_).2 40 rfl W (CC.out.refl L _); obtain ⟨_, f1, f2⟩ := hw.free rfl 3 d_; refine a_e.veil fun K hK => ?_; unfold a_e
   go_simp
   exact hK _ _ ⟨⟨{ x with cols := [ [97], [98]] }, (some ⟨g1, 0, none⟩, 2), q, r, (hw.set 3 _).1, { hx with cols := by simp }, ((b_t (l := [ [97], [98]]) hg1 (nXC d_ d_ d_) s_).and (hl.mono fun U h => h.2)).go (hw.set 3 _).2⟩, (hw.set 3 _).2, fun h => by cases h⟩
  case o8 =>
   refine a_s CC.out fun L a W hf hc hL hn ht => ?_; refine r_4 ?_; intro e1; refine a_e.veil fun K hK => ?_; unfold a_e
   go_simp
   exact d_d
  case o9 =>
   intro L a W hf hc hL hn ht; obtain ⟨x, p, q, r, hw, hx, hl⟩ := hc; have e2 : a.tmps.getD 47 undef = .pointer (some ⟨w.heap.size + 1, 4, none⟩) := (ht 8 k_).2 47 rfl W (CC.out.refl L _); obtain ⟨_, f1, f2⟩ := hw.free rfl 4 d_; refine a_e.veil fun K hK => ?_; unfold a_e
   go_simp
   exact hK _ _ ⟨⟨{ x with other := [99, 117, 115, 116, 111, 109, 101, 114, 115] }, p, q, r, (hw.set 4 _).1, { hx with other := by simp [maxLen] }, hl.go (hw.set 4 _).2⟩, (hw.set 4 _).2, fun h => by cases h⟩
  case o10 =>
   refine a_s CC.out fun L a W hf hc hL hn ht => ?_; refine r_4 ?_; intro e1; refine a_e.veil fun K hK => ?_; unfold a_e
   go_simp
   exact d_d
  case o11 =>
   intro L a W hf hc hL hn ht; obtain ⟨x, p, q, r, hw, hx, hl⟩ := hc; have e2 : a.tmps.getD 48 undef = .pointer (some ⟨w.heap.size + 1, 5, none⟩) := (ht 10 k_).2 48 rfl W (CC.out.refl L _); obtain ⟨g1, m, e1, hm1, hg1⟩ := (ht 5 k_).2 45 rfl W (CC.out.refl L _); obtain ⟨ls1, rfl, hN1⟩ := m_1 hg1 hm1; obtain ⟨_, f1, f2⟩ := hw.free rfl 5 d_; refine a_e.veil fun K hK => ?_; unfold a_e
   go_simp
   exact hK _ _ ⟨⟨{ x with ocols := ls1 }, p, (some ⟨g1, 0, none⟩, 3), r, (hw.set 5 _).1, { hx with ocols := by show ls1.length ≤ _; omega }, (lx3 (hl.mono fun U h => h.1) hN1 (hl.mono fun U h => h.2.2)).go (hw.set 5 _).2⟩, (hw.set 5 _).2, fun h => by cases h⟩
  case hc0 =>
   obtain ⟨x, p, q, r, q1, q2, q3⟩ := hG; exact ⟨x, p, q, r, q1.go (Below.drew (b_ _ _)), q2, q3.go (KeepX.of (Below.drew (b_ _ _)))⟩
  case hend =>
   intro V W1 L hg1 _ _; simp only [c_V, List.setIfInBounds_toArray, List.set_cons_zero, List.set_cons_succ]
   go_wp2_with fail
   go_meet
   exact hg1
 case rest =>
 obtain ⟨x, p, q, r, hw2, hx, hl⟩ := hcut
 clear hw hN hC hm
 have hz := a_0 hw2.box
 have c0 := hz 0
 have c1 := hz 1
 have c2 := hz 2
 have c3 := hz 3
 have c4 := hz 4
 have c5 := hz 5
 have c6 := hz 6
 have c7 := hz 7
 have c8 := hz 8
 have c9 := hz 9
 have c10 := hz 10
 have c11 := hz 11
 have c12 := hz 12
 have c13 := hz 13
 simp at c0 c1 c2 c3 c4 c5 c6 c7 c8 c9 c10 c11 c12 c13
 have hy := a_0 hw2.res
 have y0 := hy 0
 have y1 := hy 1
 have y2 := hy 2
 have y3 := hy 3
 have y4 := hy 4
 have y5 := hy 5
 have y6 := hy 6
 have y7 := hy 7
 have y8 := hy 8
 have y9 := hy 9
 have y10 := hy 10
 have y11 := hy 11
 have y12 := hy 12
 have y13 := hy 13
 simp at y0 y1 y2 y3 y4 y5 y6 y7 y8 y9 y10 y11 y12 y13
 have hf := a_C hw2.res
 have f0 := hf 0
 have f1 := hf 1
 have f2 := hf 2
 have f3 := hf 3
 have f4 := hf 4
 have f5 := hf 5
 have f6 := hf 6
 have f7 := hf 7
 have f8 := hf 8
 have f9 := hf 9
 have f10 := hf 10
 have f11 := hf 11
 have f12 := hf 12
 have f13 := hf 13
 have l0 := a_6 hw2.box
 have l1 := a_6 hw2.res
 clear hz hy hf
 go_wp2_with fail
 exact l_0 rfl rfl (p_s hw2.res _ _ _ _ _ _ _ _ _ _ _ _ _ _) ⟨⟨x, p, q, r, rfl, hx, (hl.go (p_n hw2.res _ _ _ _ _ _ _ _ _ _ _ _ _ _)).mono fun U h => ⟨p, q, r, h.1, h.2.1, h.2.2, rfl⟩⟩, q_v hw2.bel (l_ _) _ _ _ _ _ _ _ _ _ _ _ _ _ _⟩
end Go.Proofs.YtnpjibaolicbmaaGreatDoor
