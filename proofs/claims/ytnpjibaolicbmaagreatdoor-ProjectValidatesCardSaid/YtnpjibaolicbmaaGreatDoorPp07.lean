/- Parts of the proof. -/
import Derived.Test.YtnpjibaolicbmaaGreatDoorPp06
import Derived.Laws.Rows
set_option linter.unusedVariables false
set_option linter.unusedSimpArgs false
set_option maxHeartbeats 4000000
namespace Go.Proofs.YtnpjibaolicbmaaGreatDoor
open Go.Proofs.Tryz
open Go.RowKit
theorem n_2 (i : Int) : bits .and .i64 i 1 = i % 2 := by
 show IntKind.i64.wrap ((BitVec.ofInt 64 i &&& BitVec.ofInt 64 1).toNat : Int) = _
 have h : (BitVec.ofInt 64 (1 : Int)).toNat = 2 ^ 1 - 1 := by decide
 rw [BitVec.toNat_and, h, Nat.and_two_pow_sub_one_eq_mod, IntKind.wrap_i64]
 simp only [BitVec.toNat_ofInt]
 omega
theorem i_8 (i : Int) : bits .and .i64 i 3 = i % 4 := by
 show IntKind.i64.wrap ((BitVec.ofInt 64 i &&& BitVec.ofInt 64 3).toNat : Int) = _
 have h : (BitVec.ofInt 64 (3 : Int)).toNat = 2 ^ 2 - 1 := by decide
 rw [BitVec.toNat_and, h, Nat.and_two_pow_sub_one_eq_mod, IntKind.wrap_i64]
 simp only [BitVec.toNat_ofInt]
 omega
theorem l_J (i : Int) : bits .and .i64 i 15 = i % 16 := by
 show IntKind.i64.wrap ((BitVec.ofInt 64 i &&& BitVec.ofInt 64 15).toNat : Int) = _
 have h : (BitVec.ofInt 64 (15 : Int)).toNat = 2 ^ 4 - 1 := by decide
 rw [BitVec.toNat_and, h, Nat.and_two_pow_sub_one_eq_mod, IntKind.wrap_i64]
 simp only [BitVec.toNat_ofInt]
 omega
theorem k_u (i : Int) : bits .and .i64 i 31 = i % 32 := by
 show IntKind.i64.wrap ((BitVec.ofInt 64 i &&& BitVec.ofInt 64 31).toNat : Int) = _
 have h : (BitVec.ofInt 64 (31 : Int)).toNat = 2 ^ 5 - 1 := by decide
 rw [BitVec.toNat_and, h, Nat.and_two_pow_sub_one_eq_mod, IntKind.wrap_i64]
 simp only [BitVec.toNat_ofInt]
 omega
theorem m_j {w : World} {B : Nat} {x y z : Value} (h0 : w.cell? ⟨B, 0, none⟩ = some x) (h1 : w.cell? ⟨B, 1, none⟩ = some y) (h2 : w.cell? ⟨B, 2, none⟩ = some z) (a b c : Value) :
  (w.setCell ⟨B, 0, none⟩ a).cell? ⟨B, 0, none⟩ = some a ∧ ((w.setCell ⟨B, 0, none⟩ a).setCell ⟨B, 1, none⟩ b).cell? ⟨B, 1, none⟩ = some b ∧ (((w.setCell ⟨B, 0, none⟩ a).setCell ⟨B, 1, none⟩ b).setCell ⟨B, 2, none⟩ c).cell? ⟨B, 2, none⟩ = some c := by
 refine ⟨World.cell?_setCell_same _ _ _ h0, World.cell?_setCell_same (u := y) _ _ _ ?_, World.cell?_setCell_same (u := z) _ _ _ ?_⟩
 ·rw [World.cell?_setCell_other _ _ _ _ s_]; exact h1
 ·rw [World.cell?_setCell_other _ _ _ _ s_, World.cell?_setCell_other _ _ _ _ s_]; exact h2
def p_8 (e : Ending) : Prop := ∃ t : Int, 0 ≤ t ∧ t ≤ 575999999 ∧ e = .returned (.int .i64 t)
theorem m_8 : ∀ m : Nat, m < 6 → ∃ x : Int, [Value.int .i64 0, Value.int .i64 1, Value.int .i64 575999999, Value.int .i64 575999998, Value.int .i64 1439, Value.int .i64 1440][m]? = some (.int .i64 x) ∧ 0 ≤ x ∧ x ≤ 575999999
 | 0, _ => ⟨_, rfl, d_⟩
 | 1, _ => ⟨_, rfl, d_⟩
 | 2, _ => ⟨_, rfl, d_⟩
 | 3, _ => ⟨_, rfl, d_⟩
 | 4, _ => ⟨_, rfl, d_⟩
 | 5, _ => ⟨_, rfl, d_⟩
 | m + 6, h => absurd h o_
theorem m_B : ∀ m : Nat, m < 6 → ∃ x : a_3, [Value.string ⟨#[97]⟩, Value.string ⟨#[98]⟩, Value.string ⟨#[99]⟩, Value.string ⟨#[]⟩, Value.string ⟨#[105, 116, 39, 115]⟩, Value.string ⟨#[97, 32, 98]⟩][m]? = some (str x) ∧ x.length ≤ 4
 | 0, _ => ⟨[97], rfl, d_⟩
 | 1, _ => ⟨[98], rfl, d_⟩
 | 2, _ => ⟨[99], rfl, d_⟩
 | 3, _ => ⟨[], rfl, d_⟩
 | 4, _ => ⟨[105, 116, 39, 115], rfl, d_⟩
 | 5, _ => ⟨[97, 32, 98], rfl, d_⟩
 | m + 6, h => absurd h o_
theorem g_h (n : Int) (w : World) : Calls prog 142 #[.int .i64 n] w fun e w' => p_8 e ∧ Below w.heap.size w w' := by
 have hm := e_R n
 have h1 := n_2
 have h3 := i_8
 have h15 := l_J
 go_enter func142, ntmps142
 obtain ⟨x, hx, x0, x1⟩ := m_8 (n % 65536 % 6).toNat o_
 go_wp2
 ·go_ret
  exact ⟨⟨x, x0, x1, rfl⟩, zX⟩
 ·go_ret
  exact ⟨⟨_, o_, o_, rfl⟩, zX⟩
def r_n (e : Ending) : Prop := ∃ v : Vl, b_M v.kind v.num v.text = true ∧ e = .returned v.agg
set_option maxRecDepth 100000
theorem d_9 (k n : Int) (w : World) : Calls prog 79 #[.int .i64 k, .int .i64 n] w fun e w' => r_n e ∧ Below w.heap.size w w' := by
 have hm := e_R n
 have h1 := n_2
 have h3 := i_8
 have h31 := k_u
 obtain ⟨x, hx, x0⟩ := m_B (n % 65536 % 6).toNat o_
 go_enter func79, ntmps79
 go_wp2_with (go_at_call 142; refine (g_h _ _).mono ?_; rintro e w1 ⟨⟨t, t0, t1, rfl⟩, hb1⟩; have hh := a_y (B := w.heap.size + 1) (by simpa using hb1) (Nat.lt_succ_self _); have r0 : w1.cell? ⟨w.heap.size, 0, none⟩ = some (.int .i64 0) := (by rw [a_0 hh]; rfl); have r1 : w1.cell? ⟨w.heap.size, 1, none⟩ = some (.int .i64 0) := (by rw [a_0 hh]; rfl); have r2 : w1.cell? ⟨w.heap.size, 2, none⟩ = some (str []) := (by rw [a_0 hh]; rfl); have fr : ∀ i, w1.frozen? ⟨w.heap.size, i, none⟩ = false := (fun i => a_C hh i); have hb2 : Below w.heap.size w w1 := Below.trans zX (hb1.mono s_); clear hb1 hh)
 ·refine bodyPost_ret (v := (⟨1, n % 2, []⟩ : Vl).agg) (by simp [results, results79, go_sem]) rfl ⟨⟨⟨1, n % 2, []⟩, by show b_M 1 (n % 2) [] = true; unfold b_M; simp; omega, rfl⟩, zX⟩
 ·refine bodyPost_ret (v := (⟨2, 1073741824 - n % 2, []⟩ : Vl).agg) (by simp [results, results79, go_sem]) rfl ⟨⟨⟨2, 1073741824 - n % 2, []⟩, by show b_M 2 (1073741824 - n % 2) [] = true; unfold b_M; simp; omega, rfl⟩, zX⟩
 ·refine bodyPost_ret (v := (⟨2, n % 4 - 1073741824, []⟩ : Vl).agg) (by simp [results, results79, go_sem]) rfl ⟨⟨⟨2, n % 4 - 1073741824, []⟩, by show b_M 2 (n % 4 - 1073741824) [] = true; unfold b_M; simp; omega, rfl⟩, zX⟩
 ·refine bodyPost_ret (v := (⟨2, n % 65536 % 7 - 2, []⟩ : Vl).agg) (by simp [results, results79, go_sem]) rfl ⟨⟨⟨2, n % 65536 % 7 - 2, []⟩, by show b_M 2 (n % 65536 % 7 - 2) [] = true; unfold b_M; simp; omega, rfl⟩, zX⟩
 ·refine bodyPost_ret (v := (⟨3, 0, x⟩ : Vl).agg) (by simp [results, results79, go_sem]) rfl ⟨⟨⟨3, 0, x⟩, by show b_M 3 0 x = true; unfold b_M; simp; omega, rfl⟩, zX⟩
 ·obtain ⟨s0, s1, s2⟩ := m_j r0 r1 r2 (.int .i64 4) (.int .i64 t) (.string ⟨#[]⟩)
  refine bodyPost_ret (v := (⟨4, t, []⟩ : Vl).agg) (by simp [results, results79, go_sem, s0, s1, s2]) rfl ⟨⟨⟨4, t, []⟩, by show b_M 4 t [] = true; unfold b_M; simp; omega, rfl⟩, zX⟩
 ·refine bodyPost_ret (v := (⟨0, 0, []⟩ : Vl).agg) (by simp [results, results79, go_sem]) rfl ⟨⟨⟨0, 0, []⟩, rfl, rfl⟩, zX⟩
def j_A (w w' : World) (es : List Nd) (e : Ending) : Prop :=
 ∃ (A : Option Addr) (c : Nat), e = .returned (.slice A es.length c) ∧ w'.ownsRow w.heap.size 72 6 (.slice A es.length c) es.length (a_D es)
set_option maxRecDepth 512
theorem i_m (w : World) {base e size n : Nat} {cur : Array Value} (hb : base ≤ w.heap.size) (hs : cur.size = n * size) (hm : n ≤ maxLen) :
  (w.alloc (.cells cur e)).ownsRow base e size (.slice (some ⟨w.heap.size, 0, none⟩) n n) n cur.toList :=
 ⟨by simpa using hs, .inr ⟨w.heap.size, n, cur, rfl, hb, heap_alloc_new w _, l_ _, hm, hs, by rw [List.take_of_length_le (by simp [hs])]⟩⟩
theorem b_G (v : Vl) (w : World) : Calls prog 202 #[v.agg] w fun e w' => j_A w w' [⟨0, v, [], 0⟩] e ∧ Below w.heap.size w w' := by
 have HO := a_2 (i_m (w.alloc (.cells #[.int .i64 v.kind, .int .i64 v.num, str v.text] 70)) (base := w.heap.size) (e := 72) (size := 6) (n := 1) (cur := #[.int .i64 0, .int .i64 v.kind, .int .i64 v.num, str v.text, str [], .int .i64 0]) s_ s_ d_)
 go_enter func202, ntmps202
 go_wp2
 go_ret
 refine ⟨⟨_, 1, v_, HO.out⟩, zX⟩
structure Col where
 name : a_3
 kind : Int
 null : Bool
def q_t (w : World) (g off : Nat) (c : Col) : Prop := w.cell? ⟨g, off, none⟩ = some (str c.name) ∧ w.cell? ⟨g, off + 1, none⟩ = some (.int .i64 c.kind) ∧ w.cell? ⟨g, off + 2, none⟩ = some (.bool c.null)
def b_1 (w : World) (A : Option Addr) (cs : List Col) : Prop :=
 cs = [] ∨ ∃ g off, A = some ⟨g, off, none⟩ ∧ g < w.heap.size ∧ ∀ i (h : i < cs.length), q_t w g (off + i * 3) cs[i]
theorem b_1.below {w w' : World} {A : Option Addr} {cs : List Col} (h : b_1 w A cs) (hb : Below w.heap.size w w') : b_1 w' A cs := by
 rcases h with h | ⟨g, off, hA, hg, hc⟩
 ·exact .inl h
 ·refine .inr ⟨g, off, hA, Nat.lt_of_lt_of_le hg hb.size, fun i hi => ?_⟩
  obtain ⟨h1, h2, h3⟩ := hc i hi
  exact ⟨(hb.cell (p := ⟨g, _, none⟩) hg).trans h1, (hb.cell (p := ⟨g, _, none⟩) hg).trans h2, (hb.cell (p := ⟨g, _, none⟩) hg).trans h3⟩
def l_g (cs : List Col) : List a_3 := cs.map Col.name
def h_w (cs : List Col) : Prop := ∀ c ∈ cs, a_i 24 c.name = true ∧ c_T c.name = false
def p_6 (cs : List Col) (w w' : World) (e : Ending) : Prop := ∃ n : Nd, n.ok = true ∧ n.ar = 0 ∧ (n.op = 1 → n.name ∈ l_g cs) ∧ j_A w w' [n] e
theorem own_low {w : World} {base b2 e size n : Nat} {v : Value} {xs : List Value} (h : w.ownsRow base e size v n xs) (hb : b2 ≤ base) : w.ownsRow b2 e size v n xs :=
 ⟨h.1, h.2.elim .inl fun ⟨g, cap, cur, a, b, r⟩ => .inr ⟨g, cap, cur, a, Nat.le_trans hb b, r⟩⟩
theorem j_F {v : Vl} (h : b_M v.kind v.num v.text = true) : (⟨0, v, [], 0⟩ : Nd).ok = true := by
 show a_H 0 v.kind v.num v.text [] 0 = true
 rw [g_R, h]; rfl
theorem p_B {cs : List Col} (h : h_w cs) {c : Col} (hc : c ∈ cs) : (⟨1, vl0, c.name, 0⟩ : Nd).ok = true := by
 obtain ⟨h1, h2⟩ := h c hc
 show a_H 1 0 0 [] c.name 0 = true
 rw [g_E, h1, h2]; rfl
set_option maxRecDepth 100000
theorem d_v (k n : Int) (A : Option Addr) (cs : List Col) (cc : Nat) (w : World) (h : b_1 w A cs) (hk : h_w cs) (hl : cs.length ≤ 1000) (h0 : 0 ≤ n) (h1 : n ≤ 1000000000000) :
  Calls prog 143 #[.int .i64 k, .slice A cs.length cc, .int .i64 n] w fun e w' => p_6 cs w w' e ∧ Below w.heap.size w w' := by
 have HA := a_2 h; have HK := a_2 hk
 clear h hk
 go_enter func143, ntmps143
 go_wp2
 go_loopw [7] (fun i wr => ∃ j : Nat, j ≤ cs.length ∧ i = .int .i64 j ∧ Below w.heap.size w wr) (fun i _ => cs.length - (intOf i).toNat)
 case atStart => exact ⟨0, o_, rfl, b_ _ _⟩
 case round =>
  obtain ⟨j, hj, rfl, hbel⟩ := hrel
  have hsz := hbel.size
  by_cases hlt : j < cs.length
  ·by_cases hn : 0 < n % 4
   ·rcases HA.out.below hbel with e | ⟨g, off, rfl, hg, hc⟩
    ·exact absurd hlt e_
    have y0 : 0 ≤ (n / 4 + (j : Int)) % (cs.length : Int) := Int.emod_nonneg _ o_; have y1 : (n / 4 + (j : Int)) % (cs.length : Int) < (cs.length : Int) := Int.emod_lt_of_pos _ o_; obtain ⟨m, hm⟩ : ∃ m : Nat, (n / 4 + (j : Int)) % (cs.length : Int) = m := ⟨((n / 4 + (j : Int)) % (cs.length : Int)).toNat, o_⟩; have hml : m < cs.length := by omega
    have hcol := hc m hml; have hok := p_B HK.out (List.getElem_mem hml); have hin : cs[m].name ∈ l_g cs := List.mem_map.2 ⟨cs[m], List.getElem_mem hml, rfl⟩; clear hc y0 y1; generalize cs[m] = x at *; obtain ⟨c0, c1, c2⟩ := hcol; have HOk := a_2 (And.intro hok hin); clear hok hin; have hz : ((cs.length : Int) == 0) = false := beq_eq_false_iff_ne.2 o_; have HO := a_2 (i_m (wr.alloc (.cells #[str x.name, .int .i64 x.kind, .bool x.null] 126)) (base := w.heap.size) (e := 72) (size := 6) (n := 1) (cur := #[.int .i64 1, .int .i64 0, .int .i64 0, str [], str x.name, .int .i64 0]) m_ s_ d_)
    go_wp2
    ·go_ret
     exact ⟨⟨⟨1, vl0, x.name, 0⟩, HOk.out.1, rfl, fun _ => HOk.out.2, _, 1, v_, HO.out⟩, zX⟩
    ·exact ⟨⟨j + 1, o_, t_, zX⟩, w_⟩
   ·by_cases h16 : n % 16 = 0
    ·go_wp2_with fail
     refine (b_G vl0 _).mono ?_; rintro e w1 ⟨⟨A1, c1, rfl, hown⟩, hb1⟩
     go_wp2
     exact s_g
    ·have h16b : (n % 16 == 0) = false := beq_eq_false_iff_ne.2 h16
     go_wp2_with fail
     refine (d_9 _ _ _).mono ?_; rintro e w1 ⟨⟨v, hv, rfl⟩, hb1⟩; have hs1 := hb1.size
     go_wp2_with fail
     refine (b_G v _).mono ?_; rintro e w2 ⟨⟨A1, c1, rfl, hown⟩, hb2⟩
     go_wp2
     exact r_T
  ·by_cases h16 : n % 16 = 0
   ·go_wp2_with fail
    refine (b_G vl0 _).mono ?_; rintro e w1 ⟨⟨A1, c1, rfl, hown⟩, hb1⟩
    go_wp2
    exact s_g
   ·have h16b : (n % 16 == 0) = false := beq_eq_false_iff_ne.2 h16
    go_wp2_with fail
    refine (d_9 _ _ _).mono ?_; rintro e w1 ⟨⟨v, hv, rfl⟩, hb1⟩; have hs1 := hb1.size
    go_wp2_with fail
    refine (b_G v _).mono ?_; rintro e w2 ⟨⟨A1, c1, rfl, hown⟩, hb2⟩
    go_wp2
    exact r_T
set_option maxRecDepth 512
theorem Tryz.info_nd : (prog.info? 72).map (fun i => (i.zero, i.size, i.bytes)) = some (some (.agg #[.int .i64 0, .int .i64 0, .int .i64 0, .string ⟨#[]⟩, .string ⟨#[]⟩, .int .i64 0]), 6, 64) := by kernel_rfl
theorem n_d : ∀ (es : List Nd), ∀ u ∈ a_D es, u.oneCell' = true
 | [], u, h => by cases h
 | n :: es, u, h => by
  rw [show a_D (n :: es) = n.cells ++ a_D es from rfl] at h
  rcases List.mem_append.1 h with h | h
  ·simp [Nd.cells] at h
   rcases h with rfl | rfl | rfl | rfl | rfl | rfl <;> rfl
  ·exact n_d es u h
theorem g_G {W : World} {B : Nat} {a b c d e f : Value} {t : TypeId} (h : W.heap[B]? = some (.cells #[a, b, c, d, e, f] t)) : ∀ (j : Nat) (u : Value), [a, b, c, d, e, f][j]? = some u → W.cell? ((⟨B, 0, none⟩ : Addr).add j) = some u := by
 intro j u hu
 refine r_p ?_; intro e
 rw [e, a_0 h]
 simpa using hu
structure Opd where
 A : Option Addr
 es : List Nd
 c : Nat
def k_3 (w : World) (g off : Nat) (os : List Opd) : Prop := g < w.heap.size ∧ ∀ i (h : i < os.length), w.cell? ⟨g, off + i, none⟩ = some (.slice os[i].A os[i].es.length os[i].c) ∧ b_q w os[i].A os[i].es ∧ os[i].es ≠ [] ∧ os[i].es.length ≤ 10000
theorem k_3.below {w w' : World} {g off : Nat} {os : List Opd} (h : k_3 w g off os) (hb : Below w.heap.size w w') : k_3 w' g off os :=
 ⟨Nat.lt_of_lt_of_le h.1 hb.size, fun i hi => by
  obtain ⟨h1, h2, h3, h4⟩ := h.2 i hi
  exact ⟨(hb.cell (p := ⟨g, _, none⟩) h.1).trans h1, h2.below hb, h3, h4⟩⟩
def e_a (os : List Opd) : List Nd := os.flatMap Opd.es
theorem h_s {os : List Opd} {k : Nat} (h : k < os.length) : e_a (os.take (k + 1)) = e_a (os.take k) ++ os[k].es := by
 unfold e_a; rw [List.take_succ_eq_append_getElem h, List.flatMap_append]; simp
theorem d_b (a b : List Nd) : a_D (a ++ b) = a_D a ++ a_D b := by simp [a_D]
theorem i_K {w : World} {g off : Nat} {os : List Opd} (h : k_3 w g off os) : ∀ k, k ≤ os.length → (e_a (os.take k)).length ≤ k * 10000
 | 0, _ => by simp [e_a]
 | k + 1, hk => by
  have ih := i_K h k o_
  have := (h.2 k o_).2.2.2
  rw [h_s o_, List.length_append]; omega
set_option maxRecDepth 100000
theorem g_W (op : Int) (g off cc : Nat) (os : List Opd) (w : World) (h : k_3 w g off os) (hl : os.length ≤ 10) :
  Calls prog 144 #[.int .i64 op, .slice (some ⟨g, off, none⟩) os.length cc] w fun e w' => j_A w w' (e_a os ++ [⟨op, vl0, [], 0⟩]) e ∧ Below w.heap.size w w' := by
 have HA := a_2 h
 clear h
 obtain ⟨i0, hi, hz0, hz1, hz2⟩ := info_parts Tryz.info_nd
 go_enter func144, ntmps144
 go_wp2
 go_loopw [5, 6] (fun s i wr => ∃ (k : Nat) (A : Option Addr) (c : Nat), s = .slice A (e_a (os.take k)).length c ∧ i = .int .i64 k ∧ k ≤ os.length ∧
   wr.ownsRow w.heap.size 72 6 (.slice A (e_a (os.take k)).length c) (e_a (os.take k)).length (a_D (e_a (os.take k))) ∧ Below w.heap.size w wr) (fun _ i _ => os.length - (intOf i).toNat)
 case atStart => exact ⟨0, none, 0, rfl, rfl, o_, b_f _ _ _ _, b_ _ _⟩
 case round =>
  obtain ⟨k, A, c, rfl, rfl, hk, hown, hbel⟩ := hrel
  have hsz := hbel.size
  have hfl := i_K HA.out k hk
  by_cases hlt : k < os.length
  ·obtain ⟨hg, hcs⟩ := HA.out.below hbel
   obtain ⟨c0, hN, hne, hln⟩ := hcs k hlt; have HT := a_2 (h_s hlt); clear hcs; generalize os[k] = o at *
   rcases hN with e | ⟨gn, on, ho, hgn, hcn⟩
   ·exact absurd e hne
   have HC := a_2 (show ∀ j u, (a_D o.es)[j]? = some u → wr.cell? ((⟨gn, on, none⟩ : Addr).add j) = some u from fun j u hu => by
    have e : (⟨gn, on, none⟩ : Addr).add j = ⟨gn, on + j, none⟩ := by cases j <;> simp [Addr.add]
    rw [e]; exact hcn j u hu)
   rw [ho] at c0; clear hcn hne ho; have HO := a_2 hown; clear hown; generalize hF : e_a (os.take k) = fl at *; clear hF
   go_wp2_with (at_builtin; refine wpList_append_own _ rfl _ _ 63 rfl w.heap.size 72 i0 _ 6 64 underlying63 hi hz0 hz1 hz2 rfl d_ _ _ _ rfl HO.out ⟨gn, on, none⟩ o.es.length o.c (a_D o.es) rfl (d_z _) HC.out (n_d _) x_ o_ o_ ?_; intro v' w3 hown3 hgrow _)
   obtain ⟨A3, c3, rfl⟩ := a_j hown3; have hb3 : Below w.heap.size w w3 := hbel.grown hgrow o_ (fun k hk => (HO.out.lt k hk).1); rw [← d_b, ← List.length_append] at hown3; rw [← List.length_append]; exact ⟨⟨k + 1, A3, c3, by rw [HT.out], t_, o_, by rw [HT.out]; exact hown3, hb3⟩, w_⟩
  ·obtain rfl : k = os.length := by omega
   rw [List.take_length] at hown hfl ⊢; have HO := a_2 hown; clear hown; generalize hF : e_a os = fl at *
   go_wp2_with (at_builtin; refine wpList_append_own _ rfl _ _ 63 rfl w.heap.size 72 i0 _ 6 64 underlying63 hi hz0 hz1 hz2 rfl d_ _ _ _ rfl (HO.out.alloc _) ⟨wr.heap.size, 0, none⟩ 1 1 [.int .i64 op, .int .i64 0, .int .i64 0, str [], str [], .int .i64 0] rfl rfl (by exact g_G (heap_alloc_new _ _)) c_ x_ o_ m_ ?_; intro v' w3 hown3 hgrow _)
   obtain ⟨A3, c3, rfl⟩ := a_j hown3; have hb3 : Below w.heap.size w w3 := (hbel.alloc o_ _).grown hgrow m_ (fun k hk => (HO.out.lt k hk).1)
   go_ret
   subst hF; exact ⟨⟨A3, c3, s_, by rw [d_b, List.length_append]; exact hown3⟩, hb3⟩
set_option maxRecDepth 512
theorem k_D {es : List Nd} (h : a_u es = 0) (k : Nat) : ∃ st, c_0 es k st := by
 unfold c_0
 cases hr : e_e (es.take k) [] with
 | ok st => exact ⟨st, rfl⟩
 | error x =>
  have h1 := h_j hr
  have h2 := j_B _ _ _ hr
  unfold a_u at h
  split at h
  ·omega
  ·rw [h1] at h
   have h3 : x = 0 := h
   omega
theorem j_Q {es : List Nd} {k : Nat} {st : List Int} (h : a_u es = 0) (hk : k < es.length) (hr : c_0 es k st) :
  ∃ a : Nat, es[k].ar = a ∧ a ≤ 8 ∧ a ≤ st.length ∧ ∃ st', c_0 es (k + 1) st' ∧ st'.length = st.length - a + 1 := by
 obtain ⟨st', h'⟩ := k_D h (k + 1)
 have h2 := h'
 unfold c_0 at h2
 rw [g_F hr hk] at h2
 obtain ⟨h3, h4, h5, h6⟩ := h_P h2
 obtain ⟨a0, a8⟩ := g_u h3
 refine ⟨es[k].ar.toNat, o_, o_, o_, st', h', ?_⟩
 rw [h6, List.length_append, List.length_take, List.length_singleton]; omega
theorem k_g {es : List Nd} {st : List Int} (h : a_u es = 0) (hr : c_0 es es.length st) : st.length = 1 := by
 unfold a_u at h
 split at h
 ·omega
 ·rename_i h256
  unfold c_0 at hr
  rw [List.take_length] at hr
  rw [hr] at h
  have h3 : (if st.length = 1 then (0 : Int) else 8) = 0 := h
  split at h3
  ·assumption
  ·omega
theorem m_C {es : List Nd} (h : a_u es = 0) : es.length ≤ 256 := by
 unfold a_u at h
 split at h <;> omega
theorem c_R {W : World} {o : Obj} {B : Nat} (h : W.heap.size = B) : (W.alloc o).heap[B]? = some o := by subst h; exact heap_alloc_new W o
theorem l_2 {w : World} {base e size n c : Nat} {A : Option Addr} {xs : List Value} (h : w.ownsRow base e size (.slice A n c) n xs) : ∀ b, A = some b → ∀ j u, xs[j]? = some u → w.cell? (b.add j) = some u := by
 intro b hb j u hu
 subst hb
 rcases h.2 with ⟨hv, hn⟩ | ⟨g, cap, cur, hv, hg, hh, hnc, hcap, hsz, htk⟩
 ·injection hv with h1 h2 h3
  cases h1
 ·injection hv with h1 h2 h3
  injection h1 with h1
  subst h1 h3
  have hj : j < n * size := by
   rcases Nat.lt_or_ge j xs.length with h5 | h5
   ·rw [h.1] at h5; exact h5
   ·rw [List.getElem?_eq_none h5] at hu; cases hu
  have e : (⟨g, 0, none⟩ : Addr).add j = ⟨g, j, none⟩ := by unfold Addr.add; split <;> simp_all
  rw [e, World.ownsRow.cellAt h j hj, hu]
theorem c_L {w : World} {base e size n c : Nat} {A : Option Addr} {xs : List Value} (h : w.ownsRow base e size (.slice A n c) n xs) : n ≤ c ∧ c ≤ maxLen ∧ (A = none → n = 0 ∧ c = 0) := by
 rcases h.2 with ⟨hv, hn⟩ | ⟨g, cap, cur, hv, hg, hh, hnc, hcap, hsz, htk⟩
 ·injection hv with h1 h2 h3
  subst h3
  exact ⟨o_, Nat.zero_le _, fun _ => ⟨hn, rfl⟩⟩
 ·injection hv with h1 h2 h3
  subst h1 h3
  exact ⟨hnc, hcap, fun e => by cases e⟩
theorem k_A {α : Type} {xs : List α} {m j : Nat} {u : α} (h : (xs.take m)[j]? = some u) : xs[j]? = some u := by
 rw [List.getElem?_take] at h
 split at h
 ·exact h
 ·cases h
theorem j_p {m : Nat} {l : a_3} (h : a_i m l = true) : l.length ≤ m := by
 unfold a_i at h
 simp at h
 exact h.1
theorem j_u {l : a_3} (h : b_4 24 l = true) : l.length ≤ 49 := by
 unfold b_4 at h
 split at h
 ·simp at h
  have h1 := j_p h.1
  have h2 := j_p h.2
  rw [List.length_take] at h1
  rw [List.length_drop] at h2
  omega
 ·have := j_p h; omega
theorem n_P {n : Nd} (h : n.ok = true) : n.name.length ≤ 49 := by
 obtain ⟨op, ⟨k, m, x⟩, nm, a⟩ := n
 have h : a_H op k m x nm a = true := h
 show nm.length ≤ 49
 unfold a_H at h
 repeat' split at h
 all_goals simp only [Bool.and_eq_true] at h
 ·have := h.1.2; simp at this; simp [this]
 ·have := j_p h.2.1.2
  omega
 ·exact j_u h.2.1.2
 ·exact j_u h.2.1.1.1.1
 ·have := h.2.1.2; simp at this; simp [this]
theorem a_S {P : Program} {fn : Func} {R : Ending → World → Prop} {a : Act} {w : World} (hd : a.defers = []) (h : ∃ v, (results fn a.tmps).run P w = .ok v w ∧ R (.returned v) w) : bodyPost P fn R .ret a w :=
 let ⟨_, h1, h2⟩ := h; bodyPost_ret h1 hd h2
def l_h (e : Ending) : Prop := ∃ x : Int, e = .returned (.int .i64 x)
def h_A (e : Ending) : Prop := ∃ b : Bool, e = .returned (.bool b)
def r_E (n : Nat) (e : Ending) : Prop := ∃ i : Int, -1 ≤ i ∧ i < n ∧ e = .returned (.int .i64 i)
theorem g_Z (x : Int) (w : World) : ∃ b : Bool, ∀ W, Calls prog 177 #[.int .i64 x] W fun e w' => e = .returned (.bool b) ∧ W = w' := by
 refine ⟨decide (-840 ≤ x) && decide (x ≤ 840), fun W => ?_⟩
 go_enter func177, ntmps177
 go_wp2
 all_goals
  go_ret
  exact ⟨a_a (by first | (simp_all; done) | (simp_all; omega)), rfl⟩
theorem d_U (x : Int) (w : World) : Calls prog 177 #[.int .i64 x] w fun e w' => h_A e ∧ w = w' := by
 go_enter func177, ntmps177
 go_wp2
 all_goals
  go_ret
  exact ⟨⟨_, rfl⟩, rfl⟩
set_option maxRecDepth 100000
theorem e_f (A : Option Addr) (cs : List Col) (c : Nat) (s : ByteArray) (w : World) (h : b_1 w A cs) (hl : cs.length ≤ 8796093022208) :
  Calls prog 179 #[.slice A cs.length c, .string s] w fun e w' => r_E cs.length e ∧ w = w' := by
 have HA := a_2 h
 clear h
 go_enter func179, ntmps179
 go_wp2
 go_loop [5] (fun i => ∃ k : Nat, k ≤ cs.length ∧ i = .int .i64 k) (fun i => cs.length - (intOf i).toNat)
 case atStart => exact ⟨0, o_, rfl⟩
 case round =>
  obtain ⟨k, hk, rfl⟩ := hrel
  by_cases hlt : k < cs.length
  ·rcases HA.out with e | ⟨g, off, rfl, hg, hc⟩
   ·exact absurd hlt e_
   obtain ⟨c0, c1, c2⟩ := hc k hlt; clear hc; generalize cs[k] = x at *
   go_wp2
   ·go_ret
    exact ⟨⟨k, o_, o_, rfl⟩, rfl⟩
   ·go_round
    case rel => exact ⟨k + 1, o_, t_⟩
    case measure => simp [intOf]; omega
  ·go_wp2
   go_ret
   exact ⟨⟨-1, o_, o_, rfl⟩, rfl⟩
theorem f_z (A : Option Addr) (cs : List Col) (c : Nat) (w : World) (h : b_1 w A cs) (hl : cs.length ≤ 8796093022208) :
    Calls prog 125 #[.slice A cs.length c] w fun e w' => l_h e ∧ w = w' := by
  have HA := a_2 h
  have HI := a_2 (fun s => e_f A cs c s w h hl)
  clear h
  go_enter func125, ntmps125
  go_wp2
  · go_ret
    exact ⟨⟨2, rfl⟩, rfl⟩
  · go_ret
    exact ⟨⟨2, rfl⟩, rfl⟩
  · go_loop [3] (fun i => ∃ k : Nat, k ≤ cs.length ∧ i = .int .i64 k) (fun i => cs.length - (intOf i).toNat)
    case atStart => exact ⟨0, o_, rfl⟩
    case round =>
      obtain ⟨k, hk, rfl⟩ := hrel
      by_cases hlt : k < cs.length
      · rcases HA.out with e | ⟨g, off, rfl, hg, hc⟩
        · exact absurd hlt e_
        obtain ⟨c0, c1, c2⟩ := hc k hlt; clear hc; generalize cs[k] = x at *
        go_wp2_with (first
          | (go_at_call 89; refine (b_5 _ _).mono ?_; rintro e w' ⟨rfl, rfl⟩)
          | (go_at_call 179; refine (HI.out _).mono ?_; rintro e w' ⟨⟨i, i0, i1, rfl⟩, rfl⟩))
        all_goals
          first
          | (go_ret
             exact ⟨⟨_, rfl⟩, rfl⟩)
          | (go_round
             case rel => exact ⟨k + 1, o_, t_⟩
             case measure => simp [intOf]; omega)
      · go_wp2
        go_ret
        exact ⟨⟨0, rfl⟩, rfl⟩
def o_V (w : World) (S : Option Addr) (m : Nat) : Prop :=
 m = 0 ∨ ∃ g off, S = some ⟨g, off, none⟩ ∧ g < w.heap.size ∧ ∀ i, i < m → ∃ a b : Int, w.cell? ⟨g, off + i * 2, none⟩ = some (.int .i64 a) ∧ w.cell? ⟨g, off + i * 2 + 1, none⟩ = some (.int .i64 b)
set_option maxRecDepth 512
theorem o_V.below {w w' : World} {S : Option Addr} {m : Nat} (h : o_V w S m) (hb : Below w.heap.size w w') : o_V w' S m := by
 rcases h with h | ⟨g, off, hA, hg, hc⟩
 ·exact .inl h
 ·refine .inr ⟨g, off, hA, Nat.lt_of_lt_of_le hg hb.size, fun i hi => ?_⟩
  obtain ⟨a, b, h1, h2⟩ := hc i hi
  exact ⟨a, b, (hb.cell (p := ⟨g, _, none⟩) hg).trans h1, (hb.cell (p := ⟨g, _, none⟩) hg).trans h2⟩
set_option maxRecDepth 100000
theorem f_v (nm : ByteArray) (o : Int) (S : Option Addr) (m c : Nat) (w : World) (h : o_V w S m) (hl : m ≤ 8796093022208) :
    Calls prog 121 #[.agg #[.string nm, .int .i64 o, .slice S m c]] w fun e w' => l_h e ∧ Below w.heap.size w w' := by
  have HA := a_2 h
  clear h
  obtain ⟨b0, HW0⟩ := g_Z o w
  have HW := a_2 HW0
  clear HW0
  cases b0
  · go_enter func121, ntmps121
    go_wp2_with (go_at_call 177; refine (HW.out _).mono ?_; rintro e w' ⟨rfl, rfl⟩)
    all_goals
      go_ret
      exact ⟨⟨_, rfl⟩, zX⟩
  go_enter func121, ntmps121
  go_wp2_with (go_at_call 177; refine (HW.out _).mono ?_; rintro e w' ⟨rfl, rfl⟩)
  · go_ret
    exact ⟨⟨_, rfl⟩, zX⟩
  · generalize hW : w.alloc _ = W1
    have hB : Below w.heap.size w W1 := by subst hW; exact zX
    have hh : W1.heap[w.heap.size]? = some (.cells #[.string nm, .int .i64 o, .slice S m c] 47) := by subst hW; exact heap_alloc_new w _
    clear hW
    go_loopw [3] (fun i wr => ∃ k : Nat, k ≤ m ∧ i = .int .i64 k ∧ Below W1.heap.size W1 wr) (fun i _ => m - (intOf i).toNat)
    case atStart => exact ⟨0, o_, rfl, b_ _ _⟩
    case round =>
      obtain ⟨k, hk, rfl, hbel⟩ := hrel; have hh2 := (hbel.block _ (a_6 hh)).trans hh; have z0 : wr.cell? ⟨w.heap.size, 2, none⟩ = some (.slice S m c) := by rw [a_0 hh2]; rfl
      have hsz := hbel.size; have hbw := a_9 hbel hB; have hbz := hB.size; have hlw := a_6 hh; have HH := a_2 hh; clear hh hh2
      by_cases hlt : k < m
      · rcases (HA.out.below hB).below hbel with e | ⟨g, off, rfl, hg, hc⟩
        · omega
        obtain ⟨a, b, c0, c1⟩ := hc k hlt
        by_cases hk0 : k = 0
        · have d0 : decide ((0 : Int) < (k : Int)) = false := by simp; omega
          have d1 : decide (0 < k) = false := by simp; omega
          refine o_u ?_; intro hlx; clear hc hk0
          go_wp2_with (go_at_call 177; refine (d_U _ _).mono ?_; rintro e w' ⟨⟨bb, rfl⟩, rfl⟩)
          all_goals
            first
            | (go_ret
               exact ⟨⟨_, rfl⟩, by first | exact hbw | (exact zX; done) | exact hbw.alloc o_ _⟩)
            | (go_big_quiet (fail)
               go_wp2
               first
               | (go_roundw
                  case rel => exact ⟨k + 1, o_, t_, zX⟩
                  case measure => simp [intOf]; omega)
               | (go_roundw
                  case rel =>
                    repeat apply Exists.intro
                    exact ⟨⟨k + 1, o_, t_, zX⟩, rfl⟩
                  case measure => simp [intOf]; omega))
        · obtain ⟨a2, b2, c2, c3⟩ := hc (k - 1) o_
          refine q_q ?_; intro d0 d1 hw ht hi0; refine o_u ?_; intro hlx; have hi2 : (1 : Int) ≤ (k : Int) := by omega
          have hi1 : (k : Int) - 1 < (m : Int) := by omega
          clear hc
          go_wp2_with (go_at_call 177; refine (d_U _ _).mono ?_; rintro e w' ⟨⟨bb, rfl⟩, rfl⟩)
          all_goals
            first
            | (go_ret
               exact ⟨⟨_, rfl⟩, by first | exact hbw | (exact zX; done) | exact hbw.alloc o_ _⟩)
            | (go_big_quiet (fail)
               go_wp2
               all_goals
                 first
                 | (go_ret
                    exact ⟨⟨_, rfl⟩, by first | (exact zX; done) | exact (hbw.alloc o_ _).drew⟩)
                 | (go_roundw
                    case rel => exact ⟨k + 1, o_, t_, zX⟩
                    case measure => simp [intOf]; omega))
      · go_wp2
        go_ret
        exact ⟨⟨_, rfl⟩, hbw⟩
set_option maxRecDepth 512
def f_D (k kind : Int) : Bool := k == kind || k == 0
abbrev knV (k : Int) (b : Bool) : Value := .agg #[.int .i64 k, .bool b]
abbrev knO (k : Int) (b : Bool) : Obj := .cells #[.int .i64 k, .bool b] 242
theorem a_V (k kind : Int) (b : Bool) (w : World) : Calls prog 272 #[knV k b, .int .i64 kind] w fun e w' => e = .returned (.bool (f_D k kind)) ∧ w.alloc (knO k b) = w' := by
 have HE := a_2 (show f_D k kind = (k == kind || k == 0) from rfl)
 by_cases h : k = kind
 ·subst h
  go_enter func272, ntmps272
  go_wp2
  go_ret
  exact ⟨a_a (by rw [HE.out]; simp), rfl⟩
 ·have hb : (k == kind) = false := by simpa using h
  go_enter func272, ntmps272
  go_wp2
  go_ret
  exact ⟨a_a (by rw [HE.out, hb]; simp), rfl⟩
def r_3 (e : Ending) : Prop := ∃ (k : Int) (b c : Bool), e = .returned (.tuple #[.agg #[.int .i64 k, .bool b], .bool c])
def t_9 (e : Ending) : Prop := ∃ (k : Int) (c : Bool), e = .returned (.tuple #[.int .i64 k, .bool c])
set_option maxRecDepth 100000
theorem e_t (k1 k2 : Int) (b1 b2 : Bool) (w : World) : Calls prog 278 #[knV k1 b1, knV k2 b2] w fun e w' => r_3 e ∧ Below w.heap.size w w' := by
 go_enter func278, ntmps278
 go_wp2_with (go_at_call 272; refine (a_V _ _ _ _).mono ?_; rintro e w' ⟨rfl, rfl⟩)
 all_goals
  refine a_S rfl ?_
  apply Exists.intro
  apply And.intro
  ·simp [results, results278, go_sem]; rfl
  ·exact ⟨⟨_, _, _, rfl⟩, zX⟩
theorem g_c (k1 k2 : Int) (b1 b2 : Bool) (w : World) : Calls prog 271 #[knV k1 b1, knV k2 b2] w fun e w' => t_9 e ∧ Below w.heap.size w w' := by
 go_enter func271, ntmps271
 go_wp2
 ·go_ret2
  exact ⟨⟨_, _, rfl⟩, zX⟩
 ·go_region_with (go_at_call 272; refine (a_V _ _ _ _).mono ?_; rintro e w' ⟨rfl, rfl⟩)
  all_goals
   go_wp2
   go_ret2
   exact ⟨⟨_, _, rfl⟩, zX⟩
theorem e_k (op k : Int) (b : Bool) (w : World) : Calls prog 273 #[.int .i64 op, knV k b] w fun e w' => r_3 e ∧ Below w.heap.size w w' := by
 go_enter func273, ntmps273
 go_wp2
 ·go_region_with (go_at_call 272; refine (a_V _ _ _ _).mono ?_; rintro e w' ⟨rfl, rfl⟩)
  all_goals
   go_wp2
   refine bodyPost_ret (v := .tuple #[knV 1 b, .bool (f_D k 1)]) (by simp [results, results273, go_sem]) rfl ⟨⟨_, _, _, rfl⟩, zX⟩
 ·go_region_with (go_at_call 272; refine (a_V _ _ _ _).mono ?_; rintro e w' ⟨rfl, rfl⟩)
  all_goals
   go_wp2
   refine bodyPost_ret (v := .tuple #[knV 2 b, .bool (f_D k 2)]) (by simp [results, results273, go_sem]) rfl ⟨⟨_, _, _, rfl⟩, zX⟩
 ·refine bodyPost_ret (v := .tuple #[knV 1 false, .bool true]) (by simp [results, results273, go_sem]) rfl ⟨⟨_, _, _, rfl⟩, zX⟩
 ·go_region_with (go_at_call 272; refine (a_V _ _ _ _).mono ?_; rintro e w' ⟨rfl, rfl⟩)
  all_goals
   go_wp2
   refine bodyPost_ret (v := .tuple #[knV 2 b, .bool (f_D k 3)]) (by simp [results, results273, go_sem]) rfl ⟨⟨_, _, _, rfl⟩, zX⟩
 ·go_region_with (go_at_call 272; refine (a_V _ _ _ _).mono ?_; rintro e w' ⟨rfl, rfl⟩)
  all_goals
   go_wp2
   refine bodyPost_ret (v := .tuple #[knV 2 b, .bool (f_D k 4)]) (by simp [results, results273, go_sem]) rfl ⟨⟨_, _, _, rfl⟩, zX⟩
set_option maxRecDepth 512
theorem h_o {w w1 : World} {a1 b1 a2 b2 a b : Value} {t1 t2 t : TypeId} (h : Below (((w.alloc (.cells #[a1, b1] t1)).alloc (.cells #[a2, b2] t2)).alloc (.cells #[a, b] t)).heap.size (((w.alloc (.cells #[a1, b1] t1)).alloc (.cells #[a2, b2] t2)).alloc (.cells #[a, b] t)) w1) :
  w1.cell? ⟨w.heap.size + 1 + 1, 0, none⟩ = some a ∧ w1.cell? ⟨w.heap.size + 1 + 1, 1, none⟩ = some b ∧ (∀ i, w1.frozen? ⟨w.heap.size + 1 + 1, i, none⟩ = false) ∧ Below w.heap.size w w1 ∧
   w1.cell? ⟨w.heap.size, 1, none⟩ = some b1 ∧ w1.cell? ⟨w.heap.size + 1, 1, none⟩ = some b2 := by
 have h0 := heap_alloc_new ((w.alloc (.cells #[a1, b1] t1)).alloc (.cells #[a2, b2] t2)) (.cells #[a, b] t)
 have hs : ((w.alloc (.cells #[a1, b1] t1)).alloc (.cells #[a2, b2] t2)).heap.size = w.heap.size + 1 + 1 := by simp
 rw [hs] at h0
 have hh : w1.heap[w.heap.size + 1 + 1]? = some (.cells #[a, b] t) := (h.block _ s_).trans h0
 have h1 : w1.heap[w.heap.size]? = some (.cells #[a1, b1] t1) := (h.block _ m_).trans ((heap_alloc_old _ _ m_).trans ((heap_alloc_old _ _ s_).trans (heap_alloc_new w _)))
 have h2 : w1.heap[w.heap.size + 1]? = some (.cells #[a2, b2] t2) := (h.block _ s_).trans ((heap_alloc_old _ _ s_).trans (by have := heap_alloc_new (w.alloc (.cells #[a1, b1] t1)) (.cells #[a2, b2] t2); simpa using this))
 refine ⟨by rw [a_0 hh]; rfl, by rw [a_0 hh]; rfl, fun i => a_C hh i, ?_, by rw [a_0 h1]; rfl, by rw [a_0 h2]; rfl⟩
 exact Below.trans zX (h.mono m_)
theorem b_x {w : World} {B : Nat} {x y : Value} (h0 : w.cell? ⟨B, 0, none⟩ = some x) (h1 : w.cell? ⟨B, 1, none⟩ = some y) (a b : Value) :
  (w.setCell ⟨B, 0, none⟩ a).cell? ⟨B, 0, none⟩ = some a ∧ ((w.setCell ⟨B, 0, none⟩ a).setCell ⟨B, 1, none⟩ b).cell? ⟨B, 1, none⟩ = some b := by
 refine ⟨World.cell?_setCell_same _ _ _ h0, World.cell?_setCell_same (u := y) _ _ _ ?_⟩
 rw [World.cell?_setCell_other _ _ _ _ s_]; exact h1
set_option maxRecDepth 100000
theorem g_C (op k1 k2 : Int) (b1 b2 : Bool) (w : World) : Calls prog 274 #[.int .i64 op, knV k1 b1, knV k2 b2] w fun e w' => r_3 e ∧ Below w.heap.size w w' := by
 cases b1 <;> cases b2
 all_goals
  go_enter func274, ntmps274
  go_wp2_with (first
   | (go_at_call 272; refine (a_V _ _ _ _).mono ?_; rintro e w' ⟨rfl, rfl⟩)
   | (go_at_call 278; refine (e_t _ _ _ _ _).mono ?_; rintro e w1 ⟨⟨kr, br, cr, rfl⟩, hb1⟩; obtain ⟨r0, r1, fr, hb2, q1, q2⟩ := h_o hb1; have s0 := (fun a => (b_x r0 r1 a (.bool true)).1); have s1 := (fun a b => (b_x r0 r1 a b).2); clear hb1)
   | (go_at_call 271; refine (g_c _ _ _ _ _).mono ?_; rintro e w1 ⟨⟨kr, cr, rfl⟩, hb1⟩; obtain ⟨r0, r1, fr, hb2, q1, q2⟩ := h_o hb1; have s0 := (fun a => (b_x r0 r1 a (.bool true)).1); have s1 := (fun a b => (b_x r0 r1 a b).2); clear hb1))
  all_goals
   refine a_S rfl ?_; apply Exists.intro; apply And.intro
   ·first | (simp [results, results274, go_sem, s0, s1]; rfl) | (simp [results, results274, go_sem]; rfl)
   ·exact ⟨⟨_, _, _, rfl⟩, zX⟩
set_option maxRecDepth 512
def d_C (w : World) (Z : Option Addr) (m : Nat) : Prop :=
 m = 0 ∨ ∃ g off, Z = some ⟨g, off, none⟩ ∧ g < w.heap.size ∧ ∀ i, i < m → ∃ (nm : a_3) (o : Int) (S : Option Addr) (sm sc : Nat),
  w.cell? ⟨g, off + i * 3, none⟩ = some (str nm) ∧ w.cell? ⟨g, off + i * 3 + 1, none⟩ = some (.int .i64 o) ∧ w.cell? ⟨g, off + i * 3 + 2, none⟩ = some (.slice S sm sc) ∧ o_V w S sm ∧ sm ≤ 8796093022208
theorem d_C.below {w w' : World} {Z : Option Addr} {m : Nat} (h : d_C w Z m) (hb : Below w.heap.size w w') : d_C w' Z m := by
 rcases h with h | ⟨g, off, hA, hg, hc⟩
 ·exact .inl h
 ·refine .inr ⟨g, off, hA, Nat.lt_of_lt_of_le hg hb.size, fun i hi => ?_⟩
  obtain ⟨nm, o, S, sm, sc, h1, h2, h3, h4, h5⟩ := hc i hi
  exact ⟨nm, o, S, sm, sc, (hb.cell (p := ⟨g, _, none⟩) hg).trans h1, (hb.cell (p := ⟨g, _, none⟩) hg).trans h2, (hb.cell (p := ⟨g, _, none⟩) hg).trans h3, h4.below hb, h5⟩
def s_L (e : Ending) : Prop := ∃ (nm : ByteArray) (o : Int) (S : Option Addr) (sm sc : Nat) (b : Bool), e = .returned (.tuple #[.agg #[.string nm, .int .i64 o, .slice S sm sc], .bool b])
set_option maxRecDepth 100000
theorem h_O (Z : Option Addr) (m c : Nat) (s : ByteArray) (w : World) (h : d_C w Z m) (hl : m ≤ 8796093022208) :
  Calls prog 252 #[.slice Z m c, .string s] w fun e w' => s_L e ∧ Below w.heap.size w w' := by
 have HA := a_2 h
 clear h
 go_enter func252, ntmps252
 go_wp2
 go_loop [6] (fun i => ∃ k : Nat, k ≤ m ∧ i = .int .i64 k) (fun i => m - (intOf i).toNat)
 case atStart => exact ⟨0, o_, rfl⟩
 case round =>
  obtain ⟨k, hk, rfl⟩ := hrel
  by_cases hlt : k < m
  ·rcases HA.out with e | ⟨g, off, rfl, hg, hc⟩
   ·omega
   obtain ⟨nm, o, S, sm, sc, c0, c1, c2, _, _⟩ := hc k hlt; clear hc
   go_wp2
   ·refine bodyPost_ret (v := .tuple #[.agg #[.string ⟨nm.toArray⟩, .int .i64 o, .slice S sm sc], .bool true]) (by simp [results, results252, go_sem]) rfl ⟨⟨_, _, _, _, _, _, rfl⟩, zX⟩
   ·go_round
    case rel => exact ⟨k + 1, o_, t_⟩
    case measure => simp [intOf]; omega
  ·go_wp2
   refine bodyPost_ret (v := .tuple #[.agg #[.string ⟨#[]⟩, .int .i64 0, .slice none 0 0], .bool false]) (by simp [results, results252, go_sem]) rfl ⟨⟨_, _, _, _, _, _, rfl⟩, zX⟩
def s_W (w' : World) (e : Ending) : Prop := ∃ (Z : Option Addr) (c : Nat), e = .returned (.slice Z 3 c) ∧ d_C w' Z 3
theorem h_a (w : World) : Calls prog 69 #[] w fun e w' => s_W w' e ∧ Below w.heap.size w w' := by
 go_enter func69, ntmps69
 go_wp2
 go_ret
 refine ⟨⟨_, 3, rfl, .inr ⟨w.heap.size + 1 + 1, 0, rfl, s_, fun i hi => ?_⟩⟩, zX⟩
 match i, hi with
 | 0, _ => exact ⟨[122, 48], 60, none, 0, 0, by first | (simp [go_sem]; done) | (simp [go_sem]; rfl), by simp [go_sem], by simp [go_sem], .inl rfl, o_⟩
 | 1, _ => exact ⟨[122, 49], -300, some ⟨w.heap.size, 0, none⟩, 2, 2, by first | (simp [go_sem]; done) | (simp [go_sem]; rfl), by simp [go_sem], by simp [go_sem], .inr ⟨w.heap.size, 0, rfl, n_, fun j hj => by
   match j, hj with
   | 0, _ => exact ⟨145000, -240, by simp [go_sem], by simp [go_sem]⟩
   | 1, _ => exact ⟨147000, -300, by simp [go_sem], by simp [go_sem]⟩⟩, o_⟩
 | 2, _ => exact ⟨[122, 50], 120, some ⟨w.heap.size + 1, 0, none⟩, 1, 1, by first | (simp [go_sem]; done) | (simp [go_sem]; rfl), by simp [go_sem], by simp [go_sem], .inr ⟨w.heap.size + 1, 0, rfl, n_, fun j hj => by
   match j, hj with
   | 0, _ => exact ⟨145450, 0, by simp [go_sem], by simp [go_sem]⟩⟩, o_⟩
def e_M (w : World) (X : Option Addr) (m : Nat) : Prop :=
 m = 0 ∨ ∃ g off, X = some ⟨g, off, none⟩ ∧ g < w.heap.size ∧ ∀ i, i < m → ∃ (k : Int) (b : Bool), w.cell? ⟨g, off + i * 2, none⟩ = some (.int .i64 k) ∧ w.cell? ⟨g, off + i * 2 + 1, none⟩ = some (.bool b)
set_option maxRecDepth 512
theorem e_M.below {w w' : World} {X : Option Addr} {m : Nat} (h : e_M w X m) (hb : Below w.heap.size w w') : e_M w' X m := by
 rcases h with h | ⟨g, off, hA, hg, hc⟩
 ·exact .inl h
 ·refine .inr ⟨g, off, hA, Nat.lt_of_lt_of_le hg hb.size, fun i hi => ?_⟩
  obtain ⟨k, b, h1, h2⟩ := hc i hi
  exact ⟨k, b, (hb.cell (p := ⟨g, _, none⟩) hg).trans h1, (hb.cell (p := ⟨g, _, none⟩) hg).trans h2⟩
theorem n_O {w w1 : World} {o1 o2 o3 : Obj} (h : Below (((w.alloc o1).alloc o2).alloc o3).heap.size (((w.alloc o1).alloc o2).alloc o3) w1) :
  w1.heap[w.heap.size]? = some o1 ∧ w1.heap[w.heap.size + 1]? = some o2 ∧ w1.heap[w.heap.size + 1 + 1]? = some o3 ∧ Below w.heap.size w w1 := by
 have h0 := heap_alloc_new ((w.alloc o1).alloc o2) o3
 have hs : ((w.alloc o1).alloc o2).heap.size = w.heap.size + 1 + 1 := by simp
 rw [hs] at h0
 have hh : w1.heap[w.heap.size + 1 + 1]? = some o3 := (h.block _ s_).trans h0
 have h1 : w1.heap[w.heap.size]? = some o1 := (h.block _ m_).trans ((heap_alloc_old _ _ m_).trans ((heap_alloc_old _ _ s_).trans (heap_alloc_new w _)))
 have h2 : w1.heap[w.heap.size + 1]? = some o2 := (h.block _ s_).trans ((heap_alloc_old _ _ s_).trans (by have := heap_alloc_new (w.alloc o1) o2; simpa using this))
 exact ⟨h1, h2, hh, Below.trans zX (h.mono m_)⟩
def e_U (e : Ending) : Prop := ∃ (k : Int) (b : Bool) (x : Int), e = .returned (.tuple #[.agg #[.int .i64 k, .bool b], .int .i64 x])
set_option maxRecDepth 100000
theorem j_V (k m a : Int) (x nm : ByteArray) (X C Z : Option Addr) (xm xc cm cc zm zc : Nat) (w : World) :
  Calls prog 255 #[ndV 0 k m x nm a, .slice X xm xc, .slice C cm cc, .slice Z zm zc] w fun e w' => e_U e ∧ Below w.heap.size w w' := by
 go_enter func255, ntmps255
 go_wp2
 all_goals
  refine a_S rfl ?_
  apply Exists.intro
  apply And.intro
  ·simp [results, results255, go_sem]; rfl
  ·exact ⟨⟨_, _, _, rfl⟩, zX⟩
theorem l_9 (k m a : Int) (x nm : ByteArray) (X C Z : Option Addr) (xm xc cm cc zm zc : Nat) (w : World) :
  Calls prog 255 #[ndV 21 k m x nm a, .slice X xm xc, .slice C cm cc, .slice Z zm zc] w fun e w' => e_U e ∧ Below w.heap.size w w' := by
 go_enter func255, ntmps255
 go_wp2
 all_goals
  refine a_S rfl ?_
  apply Exists.intro
  apply And.intro
  ·simp [results, results255, go_sem]; rfl
  ·exact ⟨⟨_, _, _, rfl⟩, zX⟩
end Go.Proofs.YtnpjibaolicbmaaGreatDoor
