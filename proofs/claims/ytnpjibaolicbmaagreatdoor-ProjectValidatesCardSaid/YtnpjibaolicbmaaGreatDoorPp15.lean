/- Parts of the proof. -/
import Derived.Test.YtnpjibaolicbmaaGreatDoorPp14
import Derived.Deep.RegionLawGrows
import Derived.Deep.AppendLies
set_option linter.unusedVariables false
set_option linter.unusedSimpArgs false
set_option maxHeartbeats 4000000
namespace Go.Proofs.YtnpjibaolicbmaaGreatDoor
open Go.Proofs.Tryz
open Go.RowKit
def KnL (n : Nat) (xs : List Value) : Prop := xs.length = n * 2 ∧ ∀ i, i < n → ∃ (k : Int) (b : Bool), xs[i * 2]? = some (.int .i64 k) ∧ xs[i * 2 + 1]? = some (.bool b)
theorem KnL.nil : KnL 0 [] := ⟨rfl, fun i hi => by omega⟩
theorem KnL.take {n r : Nat} {xs : List Value} (h : KnL n xs) (hr : r ≤ n) : KnL r (xs.take (r * 2)) := by
 refine ⟨by rw [List.length_take, h.1]; omega, fun i hi => ?_⟩
 obtain ⟨k, b, h1, h2⟩ := h.2 i o_
 exact ⟨k, b, by rw [List.getElem?_take_of_lt o_]; exact h1, by rw [List.getElem?_take_of_lt o_]; exact h2⟩
theorem KnL.push {n : Nat} {xs : List Value} (h : KnL n xs) (k : Int) (b : Bool) : KnL (n + 1) (xs ++ [.int .i64 k, .bool b]) := by
 refine ⟨by rw [List.length_append, h.1]; simp; omega, fun i hi => ?_⟩
 by_cases hlt : i < n
 ·obtain ⟨k, b, h1, h2⟩ := h.2 i hlt
  exact ⟨k, b, by rw [List.getElem?_append_left (by rw [h.1]; omega)]; exact h1, by rw [List.getElem?_append_left (by rw [h.1]; omega)]; exact h2⟩
 ·obtain rfl : i = n := by omega
  refine ⟨k, b, ?_, ?_⟩
  ·rw [List.getElem?_append_right (by rw [h.1]; omega), h.1]; simp
  ·rw [List.getElem?_append_right (by rw [h.1]; omega), h.1, show i * 2 + 1 - i * 2 = 1 by omega]; rfl
theorem KnL.own {w : World} {base e n c r : Nat} {A : Option Addr} {xs : List Value} (h : w.ownsRow base e 2 (.slice A n c) n xs) (hk : KnL n xs) (hr : r ≤ n) :
  e_M w (if c = r then A else A.map (·.add (r * 2))) (n - r) := by
 rcases h.2 with ⟨hv, hn⟩ | ⟨g, cap, cur, hv, hg, hh, hnc, hcap, hsz, htk⟩
 ·exact .inl o_
 ·injection hv with h1 h2 h3
  subst h1 h3
  by_cases hrn : r = n
  ·exact .inl o_
  rw [if_neg o_]
  refine .inr ⟨g, r * 2, ?_, a_6 hh, fun i hi => ?_⟩
  ·cases r with
   | zero => simp [Addr.add]
   | succ m => simp [Addr.add]
  ·obtain ⟨k, b, h3, h4⟩ := hk.2 (r + i) o_
   refine ⟨k, b, ?_, ?_⟩
   ·have hc : w.cell? ⟨g, r * 2 + i * 2, none⟩ = xs[r * 2 + i * 2]? := World.ownsRow.cellAt h (r * 2 + i * 2) o_
    rw [hc, show r * 2 + i * 2 = (r + i) * 2 by omega]; exact h3
   ·have hc : w.cell? ⟨g, r * 2 + i * 2 + 1, none⟩ = xs[r * 2 + i * 2 + 1]? := World.ownsRow.cellAt h (r * 2 + i * 2 + 1) o_
    rw [hc, show r * 2 + i * 2 + 1 = (r + i) * 2 + 1 by omega]; exact h4
def s_U (e : Ending) : Prop := ∃ (k : Int) (b : Bool) (x : Int), e = .returned (.tuple #[.int .i64 k, .bool b, .int .i64 x])
theorem i_R {W : World} {B : Nat} {a b : Value} {t : TypeId} (h : W.heap[B]? = some (.cells #[a, b] t)) : ∀ (j : Nat) (u : Value), [a, b][j]? = some u → W.cell? ((⟨B, 0, none⟩ : Addr).add j) = some u := by
 intro j u hu
 refine r_p ?_; intro e
 rw [e, a_0 h]
 simpa using hu
theorem Tryz.info_kn : (prog.info? 242).map (fun i => (i.zero, i.size, i.bytes)) = some (some (.agg #[.int .i64 0, .bool false]), 2, 16) := by kernel_rfl
def d_B : Prop := ∀ (op k m a : Int) (x nm : ByteArray) (X C Z : Option Addr) (cs : List Col) (n xc cc zm zc : Nat) (w : World), (n : Int) = b_N op a → e_M w X n → b_1 w C cs → cs.length ≤ 8796093022208 → d_C w Z zm → zm ≤ 8796093022208 →
  Calls prog 255 #[ndV op k m x nm a, .slice X n xc, .slice C cs.length cc, .slice Z zm zc] w fun e w' => e_U e ∧ Below w.heap.size w w'
set_option maxRecDepth 100000
theorem h_G (hNode : d_B) (A : Option Addr) (es : List Nd) (c : Nat) (C : Option Addr) (cs : List Col) (cc : Nat) (Z : Option Addr) (zm zc : Nat) (w : World) (hE : b_q w A es) (hle : es.length ≤ 8796093022208) (hx : b_Q es)
  (hC : b_1 w C cs) (hcl : cs.length ≤ 8796093022208) (hZ : d_C w Z zm) (hz : zm ≤ 8796093022208) :
  Calls prog 203 #[.slice A es.length c, .slice C cs.length cc, .slice Z zm zc] w fun e w' => s_U e ∧ Below w.heap.size w w' := by
 have HE := a_2 hE; have HC := a_2 hC; have HZ := a_2 hZ
 have HV := a_2 (b_l A es c w hE hle hx)
 have HN := a_2 hNode
 clear hE hC hZ hx hNode
 obtain ⟨i0, hi, hz0, hz1, hz2⟩ := info_parts Tryz.info_kn
 by_cases h8 : a_u es = 0
 rotate_left
 ·have HV2 := a_2 h8
  have hne : (a_u es != 0) = true := by simpa using h8
  clear h8
  generalize a_u es = x at *
  go_enter func203, ntmps203
  go_wp2_with (go_at_call 182; refine (HV.out).mono ?_; rintro e w1 ⟨rfl, hb1⟩)
  refine bodyPost_ret (v := .tuple #[.int .i64 0, .bool false, .int .i64 x]) (by simp [results, results203, go_sem]) rfl ⟨⟨_, _, _, rfl⟩, hb1⟩
 rw [h8] at HV
 have hle2 := m_C h8
 have H8 := a_2 h8
 clear h8
 go_enter func203, ntmps203
 go_wp2_with (go_at_call 182; refine (HV.out).mono ?_; rintro e w1 ⟨rfl, hb1⟩)
 refine (f_z C cs cc _ (HC.out.below hb1) hcl).mono ?_
 rintro e w2 ⟨⟨y, rfl⟩, rfl⟩
 by_cases hy : y = 0
 rotate_left
 ·have hy2 : (y != 0) = true := by simpa using hy
  go_wp2
  refine bodyPost_ret (v := .tuple #[.int .i64 0, .bool false, .int .i64 y]) (by simp [results, results203, go_sem]) rfl ⟨⟨_, _, _, rfl⟩, hb1⟩
 subst hy
 go_wp2
 have hsz1 := hb1.size
 go_loopw [11] (fun i wr => ∃ k : Nat, k ≤ zm ∧ i = .int .i64 k ∧ Below w.heap.size w wr) (fun i _ => zm - (intOf i).toNat)
 case atStart => exact ⟨0, o_, rfl, hb1⟩
 case round =>
  obtain ⟨k, hk, rfl, hbel⟩ := hrel
  have hsz := hbel.size
  by_cases hlt : k < zm
  ·rcases HZ.out.below hbel with e | ⟨g, off, rfl, hg, hcz⟩
   ·omega
   obtain ⟨nm, o, S, sm, sc, c0, c1, c2, hS, hsm⟩ := hcz k hlt; have HS := a_2 hS; clear hcz hS
   go_wp2_with fail
   refine (f_v _ _ _ _ _ _ HS.out hsm).mono ?_; rintro e w3 ⟨⟨y, rfl⟩, hb3⟩
   by_cases hy : y = 0
   ·subst hy
    go_wp2
    exact ⟨⟨k + 1, o_, t_, a_9 hb3 hbel⟩, w_⟩
   ·have hy2 : (y != 0) = true := by simpa using hy
    go_wp2
    refine bodyPost_ret (v := .tuple #[.int .i64 0, .bool false, .int .i64 y]) (by simp [results, results203, go_sem]) rfl ⟨⟨_, _, _, rfl⟩, a_9 hb3 hbel⟩
  ·go_wp2
   go_loopw [13, 14] (fun s i wr => ∃ (k n : Nat) (A' : Option Addr) (c' : Nat) (xs : List Value) (st : List Int), s = .slice A' n c' ∧ i = .int .i64 k ∧ k ≤ es.length ∧ Hid (c_0 es k st) ∧ st.length = n ∧ Hid (KnL n xs) ∧
     wr.ownsRow w.heap.size 242 2 (.slice A' n c') n xs ∧ Below w.heap.size w wr) (fun _ i _ => es.length - (intOf i).toNat)
   case atStart => exact ⟨0, 0, none, 0, [], [], rfl, rfl, o_, a_2 rfl, rfl, a_2 KnL.nil, b_f _ _ _ _, hbel⟩
   case round =>
    clear hbel hsz hk; obtain ⟨k, n, A', c', xs, st, rfl, rfl, hk, HR, hsn, HK, hown, hbel⟩ := hrel; have hsz := hbel.size; have hn256 : n ≤ 256 := by have := (HR.out.facts hk).2; omega
    by_cases hlt2 : k < es.length
    ·obtain ⟨a, ha, ha8, han, st', hst', hlen⟩ := j_Q H8.out hlt2 HR.out
     have HST := a_2 (And.intro hst' hlen); clear hst' hlen
     rcases HE.out.below hbel with e | ⟨g, off, rfl, hg, hc⟩
     ·exact absurd hlt2 e_
     have HNd := a_2 (fun W (hW : Below wr.heap.size wr W) => (nd_of_cells (w := W) (g := g) (off := off) (es := es) (fun j u hu => (hW.cell (p := ⟨g, off + j, none⟩) hg).trans (hc j u hu)) k hlt2)); refine s_j ?_; intro HAr; have ha1 : b_N es[k].op es[k].arity = (a : Int) := ha; clear hc; obtain ⟨nd, hn⟩ : ∃ nd, nd = es[k] := ⟨_, rfl⟩; rw [← hn] at HNd HAr ha1; clear hn ha; refine q_V ?_; intro HA1; obtain ⟨r, hr⟩ : ∃ r, r = n - a := ⟨_, rfl⟩; have hr2 : n = r + a := by omega
     have hsub : (n : Int) - (a : Int) = (r : Int) := by omega
     have HNo := a_2 (fun X xc W (hW : Below w.heap.size w W) (hX : e_M W X a) => HN.out nd.op nd.val.kind nd.val.num nd.arity ⟨nd.val.text.toArray⟩ ⟨nd.name.toArray⟩ X C Z cs a xc cc zm zc W ha1.symm hX (HC.out.below hW) hcl (HZ.out.below hW) hz); have hcap := c_L hown; have HO := a_2 hown; obtain ⟨n0, n1, n2, n3, n4, n5⟩ := HNd.out wr (b_ _ _); clear hr ha1 hown
     go_wp2_with (go_at_call 232; refine (HA1.out _).mono ?_; rintro e w1 ⟨rfl, hb1⟩; obtain ⟨m0, m1, m2, m3, m4, m5⟩ := HNd.out _ hb1)
     subst hr2; have hbw1 := a_9 hb1 hbel; have hs1 := hb1.size; have HOL := a_2 (fun W (hW : Below wr.heap.size wr W) => fun b hb j u hu => l_2 (a_g HO.out hW) b hb j u (k_A (m := r * 2) hu)); have HKT := a_2 (HK.out.take (r := r) o_); have HLo := a_2 (show (xs.take (r * 2)).length = r * 2 from by rw [List.length_take, HK.out.1]; omega)
     have hKn : e_M w1 (if c' = r then A' else A'.map (·.add (r * 2))) a := by
      have := HK.out.own HO.out (r := r) o_; rw [show r + a - r = a by omega] at this; exact this.below hb1
     have b0 : (0 : Int) ≤ (r : Int) := by omega
     have b1 : (r : Int) ≤ ((r + a : Nat) : Int) := by omega
     have b2 : (r : Int) ≤ (c' : Int) := by omega
     have b3 : (r : Int) ≤ (r : Int) + (a : Int) := by omega
     clear n0 n1 n2 n3 n4 n5
     rcases HO.out.2 with ⟨hv, hn0⟩ | ⟨gs, cap, cur, hv, hgs, hh, hnc, hcapm, hsz2, htk⟩
     ·injection hv with h1 h2 h3
      subst h1 h3; obtain rfl : r = 0 := by omega
      obtain rfl : a = 0 := by omega
      have hKn2 : e_M w1 none 0 := .inl rfl; clear hKn
      first | (go_region_held3 (fun w' => w'.cell? ⟨g, off + k * 6, none⟩ = some (.int .i64 nd.op) ∧ w'.cell? ⟨g, off + k * 6 + 1, none⟩ = some (.int .i64 nd.val.kind) ∧ w'.cell? ⟨g, off + k * 6 + 2, none⟩ = some (.int .i64 nd.val.num) ∧ w'.cell? ⟨g, off + k * 6 + 3, none⟩ = some (str nd.val.text) ∧ w'.cell? ⟨g, off + k * 6 + 4, none⟩ = some (str nd.name) ∧ w'.cell? ⟨g, off + k * 6 + 5, none⟩ = some (.int .i64 nd.arity))
       (first | (refine HNd.out _ ?_; (exact zX; done)) | go_keep)
       ((first | (go_at_call 255; refine (HNo.out _ _ _ zX (hKn2.below zX)).mono ?_; rintro e w3 ⟨⟨kr, br, er, rfl⟩, hb3⟩; have hb4 : Below wr.heap.size wr w3 := Below.trans zX (hb3.mono m_); have hb5 := a_9 hb4 hbel; have hz4 := hb4.size; (first | (have hxb : w3.heap[w1.heap.size]? = some (.cells #[.int .i64 0, .bool false] 242) := (hb3.block _ s_).trans (heap_alloc_new w1 _); have x0 : w3.cell? ⟨w1.heap.size, 0, none⟩ = some (.int .i64 0) := (by rw [a_0 hxb]; rfl); have x1 : w3.cell? ⟨w1.heap.size, 1, none⟩ = some (.bool false) := (by rw [a_0 hxb]; rfl); have xf : ∀ i, w3.frozen? ⟨w1.heap.size, i, none⟩ = false := (fun i => a_C hxb i); have s0 := (fun a => (b_x x0 x1 a (.bool true)).1); have s1 := (fun a b => (b_x x0 x1 a b).2); clear hxb) | skip))))) | fail
      all_goals
       have hno := hb5; clear m0 m1 m2 m3 m4 m5
       by_cases her : er = 0
       ·subst her
        go_wp2
        first | (go_region_law ((refine step_append_grows r_ _ _ _ r_ 242 i0 _ 2 16 underlying240 hi hz0 hz1 hz2 rfl o_ _ _ _ _ r_ (by intro e; first | (cases e; done) | exact ⟨rfl, rfl⟩) HLo.out (HOL.out _ zX) ⟨_, 0, none⟩ 1 1 [.int .i64 kr, .bool br] r_ rfl (by exact i_R (c_R s_)) c_ o_ x_ o_ ?_; intro v' w4 hown4 hgrow4))) | fail
        all_goals
         obtain ⟨A3, c3, rfl⟩ := a_j hown4; refine _ad ?_; intro hb6 hown5 HFin; clear hown4 hown5 hgrow4
         go_wp2
         exact r_C
       ·have her2 : (er != 0) = true := by simpa using her
        go_wp2
        refine bodyPost_ret (v := .tuple #[.int .i64 0, .bool false, .int .i64 er]) (by simp [results, results203, go_sem]) rfl ⟨⟨_, _, _, rfl⟩, zX⟩
     ·injection hv with h1 h2 h3
      subst h1 h3; clear hh htk hsz2
      by_cases hcr : c' = r
      ·subst hcr
       obtain rfl : a = 0 := by omega
       have hKn2 : e_M w1 (some ⟨gs, 0, none⟩) 0 := .inl rfl; clear hKn
       first | (go_region_held3 (fun w' => w'.cell? ⟨g, off + k * 6, none⟩ = some (.int .i64 nd.op) ∧ w'.cell? ⟨g, off + k * 6 + 1, none⟩ = some (.int .i64 nd.val.kind) ∧ w'.cell? ⟨g, off + k * 6 + 2, none⟩ = some (.int .i64 nd.val.num) ∧ w'.cell? ⟨g, off + k * 6 + 3, none⟩ = some (str nd.val.text) ∧ w'.cell? ⟨g, off + k * 6 + 4, none⟩ = some (str nd.name) ∧ w'.cell? ⟨g, off + k * 6 + 5, none⟩ = some (.int .i64 nd.arity))
        (first | (refine HNd.out _ ?_; (exact zX; done)) | go_keep)
        ((first | (go_at_call 255; refine (HNo.out _ _ _ zX (hKn2.below zX)).mono ?_; rintro e w3 ⟨⟨kr, br, er, rfl⟩, hb3⟩; have hb4 : Below wr.heap.size wr w3 := Below.trans zX (hb3.mono m_); have hb5 := a_9 hb4 hbel; have hz4 := hb4.size; (first | (have hxb : w3.heap[w1.heap.size]? = some (.cells #[.int .i64 0, .bool false] 242) := (hb3.block _ s_).trans (heap_alloc_new w1 _); have x0 : w3.cell? ⟨w1.heap.size, 0, none⟩ = some (.int .i64 0) := (by rw [a_0 hxb]; rfl); have x1 : w3.cell? ⟨w1.heap.size, 1, none⟩ = some (.bool false) := (by rw [a_0 hxb]; rfl); have xf : ∀ i, w3.frozen? ⟨w1.heap.size, i, none⟩ = false := (fun i => a_C hxb i); have s0 := (fun a => (b_x x0 x1 a (.bool true)).1); have s1 := (fun a b => (b_x x0 x1 a b).2); clear hxb) | skip))))) | fail
       all_goals
        have hno := hb5; clear m0 m1 m2 m3 m4 m5
        by_cases her : er = 0
        ·subst her
         go_wp2
         first | (go_region_law ((refine step_append_grows r_ _ _ _ r_ 242 i0 _ 2 16 underlying240 hi hz0 hz1 hz2 rfl o_ _ _ _ _ r_ (by intro e; first | (cases e; done) | exact ⟨rfl, rfl⟩) HLo.out (HOL.out _ zX) ⟨_, 0, none⟩ 1 1 [.int .i64 kr, .bool br] r_ rfl (by exact i_R (c_R s_)) c_ o_ x_ o_ ?_; intro v' w4 hown4 hgrow4))) | fail
         all_goals
          obtain ⟨A3, c3, rfl⟩ := a_j hown4; refine _ad ?_; intro hb6 hown5 HFin; clear hown4 hown5 hgrow4
          go_wp2
          exact r_C
        ·have her2 : (er != 0) = true := by simpa using her
         go_wp2
         refine bodyPost_ret (v := .tuple #[.int .i64 0, .bool false, .int .i64 er]) (by simp [results, results203, go_sem]) rfl ⟨⟨_, _, _, rfl⟩, zX⟩
      ·rw [if_neg hcr] at hKn
       have hKn2 : e_M w1 (some ⟨gs, r * 2, none⟩) a := by simpa [Addr.add_lit] using hKn
       clear hKn
       first | (go_region_held3 (fun w' => w'.cell? ⟨g, off + k * 6, none⟩ = some (.int .i64 nd.op) ∧ w'.cell? ⟨g, off + k * 6 + 1, none⟩ = some (.int .i64 nd.val.kind) ∧ w'.cell? ⟨g, off + k * 6 + 2, none⟩ = some (.int .i64 nd.val.num) ∧ w'.cell? ⟨g, off + k * 6 + 3, none⟩ = some (str nd.val.text) ∧ w'.cell? ⟨g, off + k * 6 + 4, none⟩ = some (str nd.name) ∧ w'.cell? ⟨g, off + k * 6 + 5, none⟩ = some (.int .i64 nd.arity))
        (first | (refine HNd.out _ ?_; (exact zX; done)) | go_keep)
        ((first | (go_at_call 255; refine (HNo.out _ _ _ zX (hKn2.below zX)).mono ?_; rintro e w3 ⟨⟨kr, br, er, rfl⟩, hb3⟩; have hb4 : Below wr.heap.size wr w3 := Below.trans zX (hb3.mono m_); have hb5 := a_9 hb4 hbel; have hz4 := hb4.size; (first | (have hxb : w3.heap[w1.heap.size]? = some (.cells #[.int .i64 0, .bool false] 242) := (hb3.block _ s_).trans (heap_alloc_new w1 _); have x0 : w3.cell? ⟨w1.heap.size, 0, none⟩ = some (.int .i64 0) := (by rw [a_0 hxb]; rfl); have x1 : w3.cell? ⟨w1.heap.size, 1, none⟩ = some (.bool false) := (by rw [a_0 hxb]; rfl); have xf : ∀ i, w3.frozen? ⟨w1.heap.size, i, none⟩ = false := (fun i => a_C hxb i); have s0 := (fun a => (b_x x0 x1 a (.bool true)).1); have s1 := (fun a b => (b_x x0 x1 a b).2); clear hxb) | skip))))) | fail
       all_goals
        have hno := hb5; clear m0 m1 m2 m3 m4 m5
        by_cases her : er = 0
        ·subst her
         go_wp2
         first | (go_region_law ((refine step_append_grows r_ _ _ _ r_ 242 i0 _ 2 16 underlying240 hi hz0 hz1 hz2 rfl o_ _ _ _ _ r_ (by intro e; first | (cases e; done) | exact ⟨rfl, rfl⟩) HLo.out (HOL.out _ zX) ⟨_, 0, none⟩ 1 1 [.int .i64 kr, .bool br] r_ rfl (by exact i_R (c_R s_)) c_ o_ x_ o_ ?_; intro v' w4 hown4 hgrow4))) | fail
         all_goals
          obtain ⟨A3, c3, rfl⟩ := a_j hown4; refine _ad ?_; intro hb6 hown5 HFin; clear hown4 hown5 hgrow4
          go_wp2
          exact r_C
        ·have her2 : (er != 0) = true := by simpa using her
         go_wp2
         refine bodyPost_ret (v := .tuple #[.int .i64 0, .bool false, .int .i64 er]) (by simp [results, results203, go_sem]) rfl ⟨⟨_, _, _, rfl⟩, zX⟩
    ·obtain rfl : k = es.length := by omega
     have h1 := k_g H8.out HR.out; obtain rfl : n = 1 := by omega
     obtain ⟨kk, bb, g0, g1⟩ := HK.out.2 0 o_
     rcases hown.2 with ⟨hv, hn0⟩ | ⟨gs, cap, cur, hv, hgs, hh, hnc, hcapm, hsz2, htk⟩
     ·omega
     ·injection hv with e1 e2 e3
      subst e1 e3; have x0 : wr.cell? ⟨gs, 0, none⟩ = some (.int .i64 kk) := (World.ownsRow.cellAt hown 0 o_).trans g0; have x1 : wr.cell? ⟨gs, 1, none⟩ = some (.bool bb) := (World.ownsRow.cellAt hown 1 o_).trans g1; clear hh htk hsz2 hown
      go_wp2
      go_big_quiet (fail)
      go_wp2
      refine bodyPost_ret (v := .tuple #[.int .i64 kk, .bool bb, .int .i64 0]) (by simp [results, results203, go_sem]) rfl ⟨⟨_, _, _, rfl⟩, zX⟩
set_option maxRecDepth 512
theorem k_z (l : List Int) (i : Int) : 0 ≤ lAt l i := by
 unfold lAt
 split
 ·omega
 ·have h1 : 0 ≤ i % 65536 / (l.length : Int) := Int.ediv_nonneg o_ o_
  omega
theorem n_D (l : List Int) (i : Int) : lAt l i ≤ 131072 := by
 unfold lAt
 split
 ·omega
 ·have h1 : i % 65536 / (l.length : Int) ≤ i % 65536 := Int.ediv_le_self _ o_
  omega
theorem d_A.names {cs : List a_3} {d : Nat} {es : List Nd} (h : d_A cs d es) : b_Q es := fun n hn => by
 have := n_P (h.oks n hn)
 unfold maxLen; omega
theorem d_A.short {cs : List a_3} {d : Nat} {es : List Nd} (h : d_A cs d es) (hd : d ≤ 4) : es.length ≤ 121 := Nat.le_trans h.1 (k_U (e := 4) hd)
def g_J (cs : List a_3) (d : Nat) (w w' : World) (e : Ending) : Prop := ∃ es, d_A cs d es ∧ j_A w w' es e
theorem k_G {op : Int} (h : 4 ≤ op) (h2 : op ≤ 15 ∨ op = 18) : (⟨op, vl0, [], 0⟩ : Nd).ok = true ∧ (⟨op, vl0, [], 0⟩ : Nd).ar = 2 := by
 have ha : b_N op 0 = 2 := by
  unfold b_N
  rw [if_neg o_, if_neg o_, if_neg o_, if_neg o_, if_pos o_]
 refine ⟨?_, ha⟩
 show a_H op 0 0 [] [] 0 = true
 unfold a_H
 rw [if_neg o_, if_neg o_, if_neg o_, if_neg o_, ha]
 rfl
theorem o_g {W : World} {t : TypeId} (os : List Opd) (h : ∀ o ∈ os, b_q W o.A o.es ∧ o.es ≠ [] ∧ o.es.length ≤ 10000) :
  k_3 (W.alloc (.cells (os.map fun o => Value.slice o.A o.es.length o.c).toArray t)) W.heap.size 0 os := by
 refine ⟨s_, fun i hi => ?_⟩
 obtain ⟨h1, h2, h3⟩ := h os[i] (List.getElem_mem hi)
 refine ⟨?_, h1.below (Below.alloc (b_ _ _) (l_ _) _), h2, h3⟩
 rw [a_0 (heap_alloc_new W _)]
 simp [hi]
abbrev n_w (B : Nat) (W : World) (A : Option Addr) (es : List Nd) (c : Nat) : Prop := W.ownsRow B 72 6 (.slice A es.length c) es.length (a_D es)
theorem f_x {cs : List a_3} {d B : Nat} {W0 W : World} {os : List Opd} {op : Int} {t : TypeId} (hB : W0.heap.size = B) (hb : Below B W0 W) (h : ∀ o ∈ os, b_q W o.A o.es ∧ o.es ≠ [] ∧ o.es.length ≤ 10000) (hl : os.length ≤ 10)
  (hg : d_A cs d (e_a os ++ [⟨op, vl0, [], 0⟩])) :
  Calls prog 144 #[.int .i64 op, .slice (some ⟨W.heap.size, 0, none⟩) os.length os.length] (W.alloc (.cells (os.map fun o => Value.slice o.A o.es.length o.c).toArray t)) fun e w' => g_J cs d W0 w' e ∧ Below W0.heap.size W0 w' := by
 subst hB
 refine (g_W op W.heap.size 0 os.length os _ (o_g os h) hl).mono ?_
 rintro e w' ⟨⟨A, c, rfl, hown⟩, hb2⟩
 have hs := hb.size
 refine ⟨⟨_, hg, A, c, rfl, own_low hown m_⟩, ?_⟩
 exact (hb.alloc hs _).trans (hb2.mono m_)
theorem g_5 {cs : List a_3} {d c : Nat} {W0 W : World} {A : Option Addr} {es : List Nd} {op : Int} {t : TypeId} (hop : (⟨op, vl0, [], 0⟩ : Nd).ok = true ∧ (⟨op, vl0, [], 0⟩ : Nd).ar = 1) (hd : d ≤ 4) (hb : Below W0.heap.size W0 W)
  (g : d_A cs d es) (ho : n_w W0.heap.size W A es c) :
  Calls prog 144 #[.int .i64 op, .slice (some ⟨W.heap.size, 0, none⟩) 1 1] (W.alloc (.cells #[.slice A es.length c] t)) fun e w' => g_J cs (d + 1) W0 w' e ∧ Below W0.heap.size W0 w' := by
 have hl := g.short hd
 refine f_x (os := [⟨A, es, c⟩]) rfl hb ?_ s_ ?_
 ·intro o ho2
  simp only [List.mem_cons, List.not_mem_nil, or_false] at ho2
  subst ho2
  exact ⟨b_i ho, g.ne, by show es.length ≤ _; omega⟩
 ·have := d_A.un o_ g (n := ⟨op, vl0, [], 0⟩) hop.1 hop.2
  simpa [e_a] using this
theorem c_i {cs : List a_3} {d c1 c2 : Nat} {W0 W : World} {A1 A2 : Option Addr} {es1 es2 : List Nd} {op : Int} {t : TypeId} (hop : (⟨op, vl0, [], 0⟩ : Nd).ok = true ∧ (⟨op, vl0, [], 0⟩ : Nd).ar = 2) (hd : d ≤ 4) (hb : Below W0.heap.size W0 W)
  (g1 : d_A cs d es1) (o1 : n_w W0.heap.size W A1 es1 c1) (g2 : d_A cs d es2) (o2 : n_w W0.heap.size W A2 es2 c2) :
  Calls prog 144 #[.int .i64 op, .slice (some ⟨W.heap.size, 0, none⟩) 2 2] (W.alloc (.cells #[.slice A1 es1.length c1, .slice A2 es2.length c2] t)) fun e w' => g_J cs (d + 1) W0 w' e ∧ Below W0.heap.size W0 w' := by
 have h1 := g1.short hd
 have h2 := g2.short hd
 refine f_x (os := [⟨A1, es1, c1⟩, ⟨A2, es2, c2⟩]) rfl hb ?_ s_ ?_
 ·intro o ho
  simp only [List.mem_cons, List.not_mem_nil, or_false] at ho
  rcases ho with rfl | rfl
  ·exact ⟨b_i o1, g1.ne, by show es1.length ≤ _; omega⟩
  ·exact ⟨b_i o2, g2.ne, by show es2.length ≤ _; omega⟩
 ·have := d_A.bin o_ g1 g2 (n := ⟨op, vl0, [], 0⟩) hop.1 hop.2
  simpa [e_a] using this
theorem l_A {cs : List a_3} {d c1 c2 c3 : Nat} {W0 W : World} {A1 A2 A3 : Option Addr} {es1 es2 es3 : List Nd} {op : Int} {t : TypeId} (hop : (⟨op, vl0, [], 0⟩ : Nd).ok = true ∧ (⟨op, vl0, [], 0⟩ : Nd).ar = 3) (hd : d ≤ 4) (hb : Below W0.heap.size W0 W)
  (g1 : d_A cs d es1) (o1 : n_w W0.heap.size W A1 es1 c1) (g2 : d_A cs d es2) (o2 : n_w W0.heap.size W A2 es2 c2) (g3 : d_A cs d es3) (o3 : n_w W0.heap.size W A3 es3 c3) :
  Calls prog 144 #[.int .i64 op, .slice (some ⟨W.heap.size, 0, none⟩) 3 3] (W.alloc (.cells #[.slice A1 es1.length c1, .slice A2 es2.length c2, .slice A3 es3.length c3] t)) fun e w' => g_J cs (d + 1) W0 w' e ∧ Below W0.heap.size W0 w' := by
 have h1 := g1.short hd
 have h2 := g2.short hd
 have h3 := g3.short hd
 refine f_x (os := [⟨A1, es1, c1⟩, ⟨A2, es2, c2⟩, ⟨A3, es3, c3⟩]) rfl hb ?_ s_ ?_
 ·intro o ho
  simp only [List.mem_cons, List.not_mem_nil, or_false] at ho
  rcases ho with rfl | rfl | rfl
  ·exact ⟨b_i o1, g1.ne, by show es1.length ≤ _; omega⟩
  ·exact ⟨b_i o2, g2.ne, by show es2.length ≤ _; omega⟩
  ·exact ⟨b_i o3, g3.ne, by show es3.length ≤ _; omega⟩
 ·have := d_A.tri o_ g1 g2 g3 (n := ⟨op, vl0, [], 0⟩) hop.1 hop.2
  simpa [e_a] using this
theorem m_p {B c : Nat} {W : World} {A : Option Addr} {es : List Nd} (n : Nd) (h : W.ownsRow B 72 6 (.slice A (es.length + 1) c) (es.length + 1) (a_D es ++ n.cells)) : n_w B W A (es ++ [n]) c := by
 have e : a_D (es ++ [n]) = a_D es ++ n.cells := by rw [d_b]; simp [a_D]
 show W.ownsRow B 72 6 (.slice A (es ++ [n]).length c) (es ++ [n]).length (a_D (es ++ [n]))
 rw [e, List.length_append]; exact h
def atB : Nat → Int
 | 0 => 1000000000000
 | d + 1 => atB d / 6 - 1
theorem j_K : ∀ d, atB d ≤ 1000000000000
 | 0 => Int.le_refl _
 | d + 1 => by have := j_K d; unfold atB; omega
theorem m_a {d : Nat} {x : Int} (h : x ≤ atB (d + 1)) : 6 * x + 6 ≤ atB d := by unfold atB at h; omega
def h_h (d : Nat) : Prop := ∀ (kind i : Int) (C : Option Addr) (cs : List Col) (cc : Nat) (L : Option Addr) (l : List Int) (lc : Nat) (W : World), b_1 W C cs → h_w cs → cs.length ≤ 1000 → b_R W L l → 0 ≤ i → i ≤ atB d →
  Calls prog 80 #[.int .i64 kind, .slice C cs.length cc, .slice L l.length lc, .int .i64 i, .int .i64 (d : Int)] W fun e w' => g_J (l_g cs) d W w' e ∧ Below W.heap.size W w'
set_option maxRecDepth 100000
theorem f_O (d : Nat) (hd : d ≤ 4) (hI : h_h d) (i D : Int) (C : Option Addr) (cs : List Col) (cc : Nat) (L : Option Addr) (l : List Int) (lc : Nat) (w : World) (hC : b_1 w C cs) (hco : h_w cs) (hcl : cs.length ≤ 1000) (hL : b_R w L l) (h0 : 0 ≤ i) (h1 : 2 * i + 2 ≤ atB d) (hD : D - 1 = (d : Int)) :
  Calls prog 145 #[.slice C cs.length cc, .slice L l.length lc, .int .i64 i, .int .i64 D] w fun e w' => g_J (l_g cs) (d + 1) w w' e ∧ Below w.heap.size w w' := by
 have HC := a_2 hC; have HL := a_2 hL; have HO := a_2 hco
 refine s_y ?_; intro HE htop
 clear hC hL hco hI
 refine p_U ?_; intro hn0 hn1 HAt
 generalize lAt l i = n at *
 generalize atB d = T at *
 have k0 : 0 ≤ n / 16 := by omega
 have k1 : n / 16 ≤ 131072 := by omega
 by_cases e0 : n % 9 = 0
 ·go_enter func145, ntmps145
  go_wp2_with (go_at_call 17; refine HAt.out.mono ?_; rintro e w0 ⟨rfl, hq⟩; have hb0 : Below w.heap.size w w0 := (by obtain ⟨q, rfl⟩ := hq; exact a_4 (b_ _ _) q); clear hq HAt)
  refine (HE.out _ _ _ hb0 o_ o_).mono ?_
  rintro e w1 ⟨⟨es1, g1, A1, c1, rfl, o1⟩, hb1⟩
  go_wp2_with fail
  refine (g_5 ⟨rfl, rfl⟩ hd (a_9 hb1 hb0) g1 (own_low o1 hb0.size)).mono ?_
  rintro e w3 ⟨⟨es, g, A, c, rfl, own⟩, hb⟩
  go_wp2
  exact _an
 by_cases e1 : n % 9 = 1
 ·go_enter func145, ntmps145
  go_wp2_with (go_at_call 17; refine HAt.out.mono ?_; rintro e w0 ⟨rfl, hq⟩; have hb0 : Below w.heap.size w w0 := (by obtain ⟨q, rfl⟩ := hq; exact a_4 (b_ _ _) q); clear hq HAt)
  refine (HE.out _ _ _ hb0 o_ o_).mono ?_
  rintro e w1 ⟨⟨es1, g1, A1, c1, rfl, o1⟩, hb1⟩
  go_wp2_with fail
  refine (HE.out _ _ _ (a_9 hb1 hb0) o_ o_).mono ?_
  rintro e w2 ⟨⟨es2, g2, A2, c2, rfl, o2⟩, hb2⟩
  go_wp2_with fail
  refine (c_i ⟨rfl, rfl⟩ hd (a_9 hb2 (a_9 hb1 hb0)) g1 (own_low (a_g o1 hb2) hb0.size) g2 (own_low o2 (a_9 hb1 hb0).size)).mono ?_
  rintro e w3 ⟨⟨es, g, A, c, rfl, own⟩, hb⟩
  go_wp2
  exact _an
 by_cases e2 : n % 9 = 2
 ·go_enter func145, ntmps145
  go_wp2_with (go_at_call 17; refine HAt.out.mono ?_; rintro e w0 ⟨rfl, hq⟩; have hb0 : Below w.heap.size w w0 := (by obtain ⟨q, rfl⟩ := hq; exact a_4 (b_ _ _) q); clear hq HAt)
  refine (HE.out _ _ _ hb0 o_ o_).mono ?_
  rintro e w1 ⟨⟨es1, g1, A1, c1, rfl, o1⟩, hb1⟩
  go_wp2_with fail
  refine (HE.out _ _ _ (a_9 hb1 hb0) o_ o_).mono ?_
  rintro e w2 ⟨⟨es2, g2, A2, c2, rfl, o2⟩, hb2⟩
  go_wp2_with fail
  refine (c_i ⟨rfl, rfl⟩ hd (a_9 hb2 (a_9 hb1 hb0)) g1 (own_low (a_g o1 hb2) hb0.size) g2 (own_low o2 (a_9 hb1 hb0).size)).mono ?_
  rintro e w3 ⟨⟨es, g, A, c, rfl, own⟩, hb⟩
  go_wp2
  exact _an
 by_cases e3 : n % 9 = 3
 ·go_enter func145, ntmps145
  go_wp2_with (go_at_call 17; refine HAt.out.mono ?_; rintro e w0 ⟨rfl, hq⟩; have hb0 : Below w.heap.size w w0 := (by obtain ⟨q, rfl⟩ := hq; exact a_4 (b_ _ _) q); clear hq HAt)
  refine (HE.out _ _ _ hb0 o_ o_).mono ?_
  rintro e w1 ⟨⟨es1, g1, A1, c1, rfl, o1⟩, hb1⟩
  go_wp2_with fail
  refine (g_5 ⟨rfl, rfl⟩ hd (a_9 hb1 hb0) g1 (own_low o1 hb0.size)).mono ?_
  rintro e w3 ⟨⟨es, g, A, c, rfl, own⟩, hb⟩
  go_wp2
  exact _an
 refine r_V ?_; intro f0 f1 f2 f3
 have hop := k_G (op := 10 + n % 4) o_ o_
 clear e0 e1 e2 e3
 ·go_enter func145, ntmps145
  go_wp2_with (go_at_call 17; refine HAt.out.mono ?_; rintro e w0 ⟨rfl, hq⟩; have hb0 : Below w.heap.size w w0 := (by obtain ⟨q, rfl⟩ := hq; exact a_4 (b_ _ _) q); clear hq HAt)
  refine (HE.out _ _ _ hb0 o_ o_).mono ?_
  rintro e w1 ⟨⟨es1, g1, A1, c1, rfl, o1⟩, hb1⟩
  go_wp2_with fail
  refine (HE.out _ _ _ (a_9 hb1 hb0) o_ o_).mono ?_
  rintro e w2 ⟨⟨es2, g2, A2, c2, rfl, o2⟩, hb2⟩
  go_wp2_with fail
  refine (c_i hop hd (a_9 hb2 (a_9 hb1 hb0)) g1 (own_low (a_g o1 hb2) hb0.size) g2 (own_low o2 (a_9 hb1 hb0).size)).mono ?_
  rintro e w3 ⟨⟨es, g, A, c, rfl, own⟩, hb⟩
  go_wp2
  exact _an
set_option maxRecDepth 100000
theorem d_H (hNode : d_B) (A : Option Addr) (es : List Nd) (c : Nat) (C : Option Addr) (cs : List Col) (cc : Nat) (w : World) (hE : b_q w A es) (hle : es.length ≤ 8796093022208) (hx : b_Q es)
  (hC : b_1 w C cs) (hcl : cs.length ≤ 1000) : Calls prog 147 #[.slice A es.length c, .slice C cs.length cc] w fun e w' => h_A e ∧ Below w.heap.size w w' := by
 have HE := a_2 hE; have HC := a_2 hC; have HX := a_2 hx; have HN := a_2 hNode
 clear hE hC hx hNode
 go_enter func147, ntmps147
 go_wp2_with fail
 refine (h_a w).mono ?_
 rintro e w1 ⟨⟨Z, zc, rfl, hZ⟩, hb1⟩
 have HZ := a_2 hZ
 clear hZ
 go_wp2_with fail
 refine (h_G HN.out A es c C cs cc Z 3 zc w1 (HE.out.below hb1) hle HX.out (HC.out.below hb1) o_ HZ.out o_).mono ?_
 rintro e w2 ⟨⟨k, b, x, rfl⟩, hb2⟩
 have hb3 := a_9 hb2 hb1
 go_wp2
 all_goals
  go_ret
  exact ⟨⟨_, rfl⟩, hb3⟩
set_option maxRecDepth 512
theorem j_3 : ∀ m : Nat, m < 3 → ∃ x : a_3, [Value.string ⟨#[122, 48]⟩, Value.string ⟨#[122, 49]⟩, Value.string ⟨#[122, 50]⟩][m]? = some (str x) ∧ (⟨20, vl0, x, 0⟩ : Nd).ok = true
 | 0, _ => ⟨[122, 48], rfl, rfl⟩
 | 1, _ => ⟨[122, 49], rfl, rfl⟩
 | 2, _ => ⟨[122, 50], rfl, rfl⟩
 | m + 3, h => absurd h o_
set_option maxRecDepth 100000
theorem f_M (hNode : d_B) (d : Nat) (hd : d ≤ 4) (hI : h_h d) (i D : Int) (C : Option Addr) (cs : List Col) (cc : Nat) (L : Option Addr) (l : List Int) (lc : Nat) (w : World) (hC : b_1 w C cs) (hco : h_w cs) (hcl : cs.length ≤ 1000) (hL : b_R w L l) (h0 : 0 ≤ i) (h1 : 2 * i + 2 ≤ atB d) (hD : D - 1 = (d : Int)) :
    Calls prog 146 #[.slice C cs.length cc, .slice L l.length lc, .int .i64 i, .int .i64 D] w fun e w' => g_J (l_g cs) (d + 1) w w' e ∧ Below w.heap.size w w' := by
  have HC := a_2 hC; have HL := a_2 hL; have HO := a_2 hco; have HNo := a_2 hNode
  refine s_y ?_; intro HE htop
  clear hC hL hco hI hNode
  refine p_U ?_; intro hn0 hn1 HAt
  generalize lAt l i = n at *
  generalize atB d = T at *
  have k0 : 0 ≤ n / 9 := by omega
  have k1 : n / 9 ≤ 131072 := by omega
  by_cases e0 : n % 9 = 0
  · go_enter func146, ntmps146
    go_wp2_with (go_at_call 17; refine HAt.out.mono ?_; rintro e w0 ⟨rfl, hq⟩; have hb0 : Below w.heap.size w w0 := (by obtain ⟨q, rfl⟩ := hq; exact a_4 (b_ _ _) q); clear hq HAt)
    refine (HE.out _ _ _ hb0 o_ o_).mono ?_; rintro e w1 ⟨⟨es1, g1, A1, c1, rfl, o1⟩, hb1⟩
    go_wp2_with fail
    refine (g_5 ⟨rfl, rfl⟩ hd (a_9 hb1 hb0) g1 (own_low o1 hb0.size)).mono ?_; rintro e w3 ⟨⟨es, g, A, c, rfl, own⟩, hb⟩
    go_wp2
    exact _an
  by_cases e1 : n % 9 = 1
  · go_enter func146, ntmps146
    go_wp2_with (go_at_call 17; refine HAt.out.mono ?_; rintro e w0 ⟨rfl, hq⟩; have hb0 : Below w.heap.size w w0 := (by obtain ⟨q, rfl⟩ := hq; exact a_4 (b_ _ _) q); clear hq HAt)
    refine (HE.out _ _ _ hb0 o_ o_).mono ?_; rintro e w1 ⟨⟨es1, g1, A1, c1, rfl, o1⟩, hb1⟩
    go_wp2_with fail
    refine (g_5 ⟨rfl, rfl⟩ hd (a_9 hb1 hb0) g1 (own_low o1 hb0.size)).mono ?_; rintro e w3 ⟨⟨es, g, A, c, rfl, own⟩, hb⟩
    go_wp2
    exact _an
  by_cases e2 : n % 9 = 2
  · obtain ⟨x, hx, hxk⟩ := j_3 (n / 9 % 3).toNat o_
    obtain ⟨i0, hi, hz0, hz1, hz2⟩ := info_parts Tryz.info_nd
    go_enter func146, ntmps146
    go_wp2_with (go_at_call 17; refine HAt.out.mono ?_; rintro e w0 ⟨rfl, hq⟩; have hb0 : Below w.heap.size w w0 := (by obtain ⟨q, rfl⟩ := hq; exact a_4 (b_ _ _) q); clear hq HAt)
    have hsz0 := hb0.size; obtain ⟨hxl, hx2⟩ := List.getElem?_eq_some_iff.1 hx; have ht1 : n.tdiv 9 = n / 9 := Int.tdiv_eq_ediv_of_nonneg hn0; have hw9 : IntKind.i64.wrap (n / 9) = n / 9 := IntWalk.i64_in _ o_; have ht2 : (n / 9).tmod 3 = n / 9 % 3 := Int.tmod_eq_emod_of_nonneg k0; have hm0 : 0 ≤ n / 9 % 3 := by omega
    have hm1 : n / 9 % 3 < 3 := by omega
    have hwd : IntKind.i64.wrap (d : Int) = (d : Int) := IntWalk.i64_in _ o_
    first | (go_region_law (first
      | (go_simp; go_at_call 80; refine (HE.out _ _ _ zX o_ o_).mono ?_; rintro e w1 ⟨⟨es1, g1, A1, c1, rfl, o1⟩, hb1⟩; have hbw : Below w.heap.size w w1 := Below.trans zX (hb1.mono (by first | omega | (simp; done) | (simp; omega))); have hbw0 : Below w0.heap.size w0 w1 := Below.trans zX (hb1.mono n_); have o2 := own_low (b2 := w.heap.size) o1 n_; have hg := g1.short hd; have hsz1 := hbw0.size;
         (first
           | (have q9 := hb1.block (w0.heap.size + 1) (by (simp; done)); have hxb : w1.heap[w0.heap.size + 1]? = some (.cells #[.int .i64 20, .int .i64 0, .int .i64 0, str [], str x, .int .i64 0] 72) := q9.trans (c_R s_))
           | (have q8 := hb1.block w0.heap.size (by (simp; done)); have hxb : w1.heap[w0.heap.size]? = some (.cells #[Value.string ⟨#[122, 48]⟩, Value.string ⟨#[122, 49]⟩, Value.string ⟨#[122, 50]⟩] 9) := q8.trans (heap_alloc_new w0 _); have hxc : w1.cell? ⟨w0.heap.size, (n / 9 % 3).toNat, none⟩ = some (str x) := (by rw [a_0 hxb]; simpa using hx))
           | skip))
      | (refine step_append_lies _ r_ (.tmp 52) (.tmp 60) 63 r_ w.heap.size 72 i0 _ 6 64 underlying63 hi hz0 hz1 hz2 rfl o_ _ _ _ r_ (a_g o2 zX) ⟨_, 0, none⟩ 1 1 [.int .i64 20, .int .i64 0, .int .i64 0, str [], str x, .int .i64 0] r_ r_ (by first | exact g_G hxb | exact g_G (c_R s_)) c_ o_ x_ o_ (by first | omega | (simp; done) | (simp; omega)) _ r_ ?_; intro gg cap w3 hown3 hgrow hat hlt))) | fail
    all_goals
      have hb9 : Below w.heap.size w w3 := (show Below w.heap.size w _ from zX).grown hgrow (by first | omega | (simp; omega)) (fun k hk => (o2.lt k hk).1); have HP := a_2 (m_p ⟨20, vl0, x, 0⟩ hown3); clear hown3 hgrow
      go_wp2
      refine bodyPost_ret (v := .slice (some ⟨gg, 0, none⟩) (es1.length + 1) cap) (by simp [results, results146, go_sem]) rfl ⟨⟨es1 ++ [⟨20, vl0, x, 0⟩], d_A.un o_ g1 hxk rfl, some ⟨gg, 0, none⟩, cap, s_, HP.out⟩, hb9⟩
  by_cases e3 : n % 9 = 3
  · go_enter func146, ntmps146
    go_wp2_with (go_at_call 17; refine HAt.out.mono ?_; rintro e w0 ⟨rfl, hq⟩; have hb0 : Below w.heap.size w w0 := (by obtain ⟨q, rfl⟩ := hq; exact a_4 (b_ _ _) q); clear hq HAt)
    refine (HE.out _ _ _ hb0 o_ o_).mono ?_; rintro e w1 ⟨⟨es1, g1, A1, c1, rfl, o1⟩, hb1⟩
    go_wp2_with fail
    refine (HE.out _ _ _ (a_9 hb1 hb0) o_ o_).mono ?_; rintro e w2 ⟨⟨es2, g2, A2, c2, rfl, o2⟩, hb2⟩
    go_wp2_with fail
    have hl2 := g2.short hd; have hbw2 := a_9 hb2 (a_9 hb1 hb0); refine (d_H HNo.out A2 es2 c2 C cs cc w2 (b_i o2) o_ g2.names (HC.out.below hbw2) hcl).mono ?_; rintro e w4 ⟨⟨b, rfl⟩, hb4⟩; have hbw4 := a_9 hb4 hbw2
    cases b
    · go_wp2_with fail
      refine (c_i ⟨rfl, rfl⟩ hd hbw4 g1 (own_low (a_g (a_g o1 hb2) hb4) hb0.size) g2 (own_low (a_g o2 hb4) (a_9 hb1 hb0).size)).mono ?_; rintro e w3 ⟨⟨es, g, A, c, rfl, own⟩, hb⟩
      go_wp2
      exact _an
    · go_wp2_with fail
      refine (d_v _ _ C cs cc _ (HC.out.below hbw4) HO.out hcl o_ o_).mono ?_; rintro e w3 ⟨⟨m, hm1, hm2, hm3, A, c, rfl, own⟩, hb⟩
      go_wp2
      go_ret
      exact ⟨⟨[m], d_A.leaf _ hm1 hm2 hm3, A, c, rfl, own_low own hbw4.size⟩, a_9 hb hbw4⟩
  refine r_V ?_; intro f0 f1 f2 f3
  have hop := k_G (op := 4 + n / 9 % 5) o_ o_
  clear e0 e1 e2 e3
  · go_enter func146, ntmps146
    go_wp2_with (go_at_call 17; refine HAt.out.mono ?_; rintro e w0 ⟨rfl, hq⟩; have hb0 : Below w.heap.size w w0 := (by obtain ⟨q, rfl⟩ := hq; exact a_4 (b_ _ _) q); clear hq HAt)
    refine (HE.out _ _ _ hb0 o_ o_).mono ?_; rintro e w1 ⟨⟨es1, g1, A1, c1, rfl, o1⟩, hb1⟩
    go_wp2_with fail
    refine (HE.out _ _ _ (a_9 hb1 hb0) o_ o_).mono ?_; rintro e w2 ⟨⟨es2, g2, A2, c2, rfl, o2⟩, hb2⟩
    go_wp2_with fail
    refine (c_i hop hd (a_9 hb2 (a_9 hb1 hb0)) g1 (own_low (a_g o1 hb2) hb0.size) g2 (own_low o2 (a_9 hb1 hb0).size)).mono ?_; rintro e w3 ⟨⟨es, g, A, c, rfl, own⟩, hb⟩
    go_wp2
    exact _an
set_option maxRecDepth 100000
theorem h_b : h_h 0 := by
 intro kind i C cs cc L l lc w hC hco hcl hL h0 h1
 have HC := a_2 hC; have HL := a_2 hL; have HO := a_2 hco
 clear hC hL hco
 have htop := j_K 0
 refine p_U ?_; intro hn0 hn1 HAt
 generalize lAt l i = n at *
 generalize atB 0 = T at *
 have k0 : 0 ≤ n / 5 := by omega
 have k1 : n / 5 ≤ 131072 := by omega
 go_enter func80, ntmps80
 go_wp2_with (go_at_call 17; refine HAt.out.mono ?_; rintro e w0 ⟨rfl, hq⟩; have hb0 : Below w.heap.size w w0 := (by obtain ⟨q, rfl⟩ := hq; exact a_4 (b_ _ _) q); clear hq HAt)
 refine (d_v _ _ C cs cc _ (HC.out.below hb0) HO.out hcl o_ o_).mono ?_
 rintro e w3 ⟨⟨m, hm1, hm2, hm3, A, c, rfl, own⟩, hb⟩
 go_wp2
 exact s_f
theorem h_2 (hNode : d_B) (d : Nat) (hd : d ≤ 3) (hI : h_h d) : h_h (d + 1) := by
 intro kind i C cs cc L l lc w hC hco hcl hL h0 h1
 have h2 := m_a h1
 have HC := a_2 hC; have HL := a_2 hL; have HO := a_2 hco; have HNo := a_2 hNode
 have HE := a_2 (fun (kind j : Int) (W : World) (hb : Below w.heap.size w W) (j0 : 0 ≤ j) (j1 : j ≤ 6 * i + 6) => hI kind j C cs cc L l lc W (hC.below hb) hco hcl (hL.below hb) j0 o_)
 have HLo := a_2 (fun (D : Int) (W : World) (hb : Below w.heap.size w W) (hD : D - 1 = (d : Int)) => f_O d o_ hI (3 * i + 1) D C cs cc L l lc W (hC.below hb) hco hcl (hL.below hb) o_ o_ hD)
 have HNu := a_2 (fun (D : Int) (W : World) (hb : Below w.heap.size w W) (hD : D - 1 = (d : Int)) => f_M hNode d o_ hI (3 * i + 1) D C cs cc L l lc W (hC.below hb) hco hcl (hL.below hb) o_ o_ hD)
 have htop := j_K d
 clear hC hL hco hI hNode h1
 refine p_U ?_; intro hn0 hn1 HAt
 generalize lAt l i = n at *
 generalize atB d = T at *
 have k0 : 0 ≤ n / 5 := by omega
 have k1 : n / 5 ≤ 131072 := by omega
 obtain ⟨D, hDd⟩ : ∃ D : Int, D = ((d + 1 : Nat) : Int) := ⟨_, rfl⟩
 have hD : D - 1 = (d : Int) := by omega
 have hD0 : 0 < D := by omega
 have hD4 : D ≤ 4 := by omega
 have hDz : decide (D ≤ 0) = false := by simp; omega
 rw [← hDd]
 have hd : d ≤ 4 := by omega
 clear hDd
 by_cases e0 : n % 5 = 0
 ·go_enter func80, ntmps80
  go_wp2_with (go_at_call 17; refine HAt.out.mono ?_; rintro e w0 ⟨rfl, hq⟩; have hb0 : Below w.heap.size w w0 := (by obtain ⟨q, rfl⟩ := hq; exact a_4 (b_ _ _) q); clear hq HAt)
  refine (d_v _ _ C cs cc _ (HC.out.below hb0) HO.out hcl o_ o_).mono ?_
  rintro e w3 ⟨⟨m, hm1, hm2, hm3, A, c, rfl, own⟩, hb⟩
  go_wp2
  exact s_f
 have f0 : (n % 5 == 0) = false := beq_eq_false_iff_ne.2 e0
 by_cases e1 : n % 5 = 1
 ·go_enter func80, ntmps80
  go_wp2_with (go_at_call 17; refine HAt.out.mono ?_; rintro e w0 ⟨rfl, hq⟩; have hb0 : Below w.heap.size w w0 := (by obtain ⟨q, rfl⟩ := hq; exact a_4 (b_ _ _) q); clear hq HAt)
  refine (HE.out _ _ _ hb0 o_ o_).mono ?_
  rintro e w1 ⟨⟨es1, g1, A1, c1, rfl, o1⟩, hb1⟩
  go_wp2_with fail
  refine (HE.out _ _ _ (a_9 hb1 hb0) o_ o_).mono ?_
  rintro e w2 ⟨⟨es2, g2, A2, c2, rfl, o2⟩, hb2⟩
  go_wp2_with fail
  refine (HE.out _ _ _ (a_9 hb2 (a_9 hb1 hb0)) o_ o_).mono ?_
  rintro e w4 ⟨⟨es4, g4, A4, c4, rfl, o4⟩, hb4⟩
  go_wp2_with fail
  refine (l_A ⟨rfl, rfl⟩ hd (a_9 hb4 (a_9 hb2 (a_9 hb1 hb0))) g1 (own_low (a_g (a_g o1 hb2) hb4) hb0.size) g2 (own_low (a_g o2 hb4) (a_9 hb1 hb0).size) g4 (own_low o4 (a_9 hb2 (a_9 hb1 hb0)).size)).mono ?_
  rintro e w3 ⟨⟨es, g, A, c, rfl, own⟩, hb⟩
  go_wp2
  exact _an
 have f1 : (n % 5 == 1) = false := beq_eq_false_iff_ne.2 e1
 by_cases e2 : n % 5 = 2
 ·go_enter func80, ntmps80
  go_wp2_with (go_at_call 17; refine HAt.out.mono ?_; rintro e w0 ⟨rfl, hq⟩; have hb0 : Below w.heap.size w w0 := (by obtain ⟨q, rfl⟩ := hq; exact a_4 (b_ _ _) q); clear hq HAt)
  refine (HE.out _ _ _ hb0 o_ o_).mono ?_
  rintro e w1 ⟨⟨es1, g1, A1, c1, rfl, o1⟩, hb1⟩
  go_wp2_with fail
  refine (HE.out _ _ _ (a_9 hb1 hb0) o_ o_).mono ?_
  rintro e w2 ⟨⟨es2, g2, A2, c2, rfl, o2⟩, hb2⟩
  go_wp2_with fail
  refine (c_i ⟨rfl, rfl⟩ hd (a_9 hb2 (a_9 hb1 hb0)) g1 (own_low (a_g o1 hb2) hb0.size) g2 (own_low o2 (a_9 hb1 hb0).size)).mono ?_
  rintro e w3 ⟨⟨es, g, A, c, rfl, own⟩, hb⟩
  go_wp2
  exact _an
 have f2 : (n % 5 == 2) = false := beq_eq_false_iff_ne.2 e2
 clear e0 e1 e2
 by_cases r1 : kind = 1
 ·subst r1
  go_enter func80, ntmps80
  go_wp2_with (go_at_call 17; refine HAt.out.mono ?_; rintro e w0 ⟨rfl, hq⟩; have hb0 : Below w.heap.size w w0 := (by obtain ⟨q, rfl⟩ := hq; exact a_4 (b_ _ _) q); clear hq HAt)
  refine (HLo.out _ _ hb0 hD).mono ?_
  rintro e w3 ⟨⟨es, g, A, c, rfl, own⟩, hb⟩
  go_wp2
  go_ret
  exact ⟨⟨es, g, A, c, rfl, own_low own hb0.size⟩, a_9 hb hb0⟩
 have s1 : (kind == 1) = false := beq_eq_false_iff_ne.2 r1
 by_cases r2 : kind = 2
 ·subst r2
  go_enter func80, ntmps80
  go_wp2_with (go_at_call 17; refine HAt.out.mono ?_; rintro e w0 ⟨rfl, hq⟩; have hb0 : Below w.heap.size w w0 := (by obtain ⟨q, rfl⟩ := hq; exact a_4 (b_ _ _) q); clear hq HAt)
  refine (HNu.out _ _ hb0 hD).mono ?_
  rintro e w3 ⟨⟨es, g, A, c, rfl, own⟩, hb⟩
  go_wp2
  go_ret
  exact ⟨⟨es, g, A, c, rfl, own_low own hb0.size⟩, a_9 hb hb0⟩
 have s2 : (kind == 2) = false := beq_eq_false_iff_ne.2 r2
 by_cases r3 : kind = 3
 ·subst r3
  go_enter func80, ntmps80
  go_wp2_with (go_at_call 17; refine HAt.out.mono ?_; rintro e w0 ⟨rfl, hq⟩; have hb0 : Below w.heap.size w w0 := (by obtain ⟨q, rfl⟩ := hq; exact a_4 (b_ _ _) q); clear hq HAt)
  refine (HE.out _ _ _ hb0 o_ o_).mono ?_
  rintro e w1 ⟨⟨es1, g1, A1, c1, rfl, o1⟩, hb1⟩
  go_wp2_with fail
  refine (HE.out _ _ _ (a_9 hb1 hb0) o_ o_).mono ?_
  rintro e w2 ⟨⟨es2, g2, A2, c2, rfl, o2⟩, hb2⟩
  go_wp2_with fail
  refine (c_i ⟨rfl, rfl⟩ hd (a_9 hb2 (a_9 hb1 hb0)) g1 (own_low (a_g o1 hb2) hb0.size) g2 (own_low o2 (a_9 hb1 hb0).size)).mono ?_
  rintro e w3 ⟨⟨es, g, A, c, rfl, own⟩, hb⟩
  go_wp2
  exact _an
 have s3 : (kind == 3) = false := beq_eq_false_iff_ne.2 r3
 clear r1 r2 r3
 have hop := k_G (op := 4 + n / 5 % 2) o_ o_
 ·go_enter func80, ntmps80
  go_wp2_with (go_at_call 17; refine HAt.out.mono ?_; rintro e w0 ⟨rfl, hq⟩; have hb0 : Below w.heap.size w w0 := (by obtain ⟨q, rfl⟩ := hq; exact a_4 (b_ _ _) q); clear hq HAt)
  refine (HE.out _ _ _ hb0 o_ o_).mono ?_
  rintro e w1 ⟨⟨es1, g1, A1, c1, rfl, o1⟩, hb1⟩
  go_wp2_with fail
  have hl1 := g1.short hd
  have hbw1 := a_9 hb1 hb0
  refine (d_H HNo.out A1 es1 c1 C cs cc w1 (b_i o1) o_ g1.names (HC.out.below hbw1) hcl).mono ?_
  rintro e w4 ⟨⟨b, rfl⟩, hb4⟩
  have hbw4 := a_9 hb4 hbw1
  cases b
  ·go_wp2_with fail
   refine (HE.out _ _ _ hbw4 o_ o_).mono ?_; rintro e w2 ⟨⟨es2, g2, A2, c2, rfl, o2⟩, hb2⟩
   go_wp2_with fail
   refine (c_i hop hd (a_9 hb2 hbw4) g1 (own_low (a_g (a_g o1 hb4) hb2) hb0.size) g2 (own_low o2 hbw4.size)).mono ?_; rintro e w3 ⟨⟨es, g, A, c, rfl, own⟩, hb⟩
   go_wp2
   exact _an
  ·go_wp2
   go_ret
   exact ⟨⟨es1, g1.mono, A1, c1, rfl, own_low (a_g o1 hb4) hb0.size⟩, hbw4⟩
set_option maxRecDepth 512
theorem e_P (hNode : d_B) : ∀ d : Nat, d ≤ 4 → h_h d
 | 0, _ => h_b
 | d + 1, h => h_2 hNode d o_ (e_P hNode d o_)
end Go.Proofs.YtnpjibaolicbmaaGreatDoor
