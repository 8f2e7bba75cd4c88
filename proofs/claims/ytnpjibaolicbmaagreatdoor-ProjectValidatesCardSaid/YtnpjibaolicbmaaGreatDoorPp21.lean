/- Parts of the proof. -/
import Derived.Test.YtnpjibaolicbmaaGreatDoorPp10
import Derived.Test.YtnpjibaolicbmaaGreatDoorPp13
import Derived.Test.YtnpjibaolicbmaaGreatDoorPp20
set_option linter.unusedVariables false
set_option linter.unusedSimpArgs false
set_option maxHeartbeats 4000000
namespace Go.Proofs.YtnpjibaolicbmaaGreatDoor
open Go.Proofs.Tryz
open Go.RowKit
theorem Tryz.info_text : (prog.info? 9).map (fun i => (i.zero, i.size, i.bytes)) = some (some (.string ⟨#[]⟩), 1, 16) := by kernel_rfl
def h_V (op : Int) : Bool := op == 0 || (decide (4 ≤ op) && decide (op ≤ 9))
def h_l (out : List a_3) (s : Stp) : List a_3 := if h_V s.op = true ∧ s.src ≠ [] ∧ s.src ∉ out then out ++ [s.src] else out
def a_I (ss : List Stp) : List a_3 := ss.foldl h_l []
theorem h_X {ss : List Stp} {k : Nat} (h : k < ss.length) : a_I (ss.take (k + 1)) = h_l (a_I (ss.take k)) ss[k] := by
 unfold a_I
 rw [List.take_succ_eq_append_getElem h, List.foldl_append]
 rfl
theorem k_5 (l : List a_3) (s : Stp) : (h_l l s).length ≤ l.length + 1 := by
 unfold h_l
 split
 ·simp
 ·omega
theorem e_2 {ss : List Stp} : ∀ k, k ≤ ss.length → (a_I (ss.take k)).length ≤ k
 | 0, _ => by simp [a_I]
 | k + 1, h => by
  rw [h_X o_]
  have := e_2 (ss := ss) k o_
  have := k_5 (a_I (ss.take k)) (ss[k]'o_)
  omega
theorem a_W {w : World} {base e c : Nat} {A : Option Addr} {l : List a_3} (h : w.ownsRow base e 1 (.slice A l.length c) l.length (l.map str)) : b_b w A l := by
 rcases h.2 with ⟨_, hn⟩ | ⟨g, cap, cur, hv, hg, hh, hnc, hcap, hsz, htk⟩
 ·exact .inl (List.eq_nil_of_length_eq_zero hn)
 ·injection hv with h1 h2 h3
  subst h1
  refine .inr ⟨g, 0, rfl, a_6 hh, fun j hj => ?_⟩
  have hc : w.cell? ⟨g, j, none⟩ = (l.map str)[j]? := World.ownsRow.cellAt h j o_
  rw [Nat.zero_add, hc]
  simp [hj]
def c_o (w w' : World) (l : List a_3) (e : Ending) : Prop :=
 ∃ (A : Option Addr) (c : Nat), e = .returned (.slice A l.length c) ∧ w'.ownsRow w.heap.size 9 1 (.slice A l.length c) l.length (l.map str)
set_option maxRecDepth 100000
theorem g_o (A : Option Addr) (ss : List Stp) (c : Nat) (w : World) (h : b_L w A ss) (hl : ss.length ≤ 8796093022208) :
  Calls prog 128 #[.slice A ss.length c] w fun e w' => c_o w w' (a_I ss) e ∧ Below w.heap.size w w' := by
 have HA := a_2 h
 clear h
 refine l_R ?_; intro i0 hi hz0 hz1 hz2
 go_enter func128, ntmps128
 go_wp2
 go_loopw [3, 4] (fun s i wr => ∃ (k : Nat) (B : Option Addr) (d : Nat), s = .slice B (a_I (ss.take k)).length d ∧ i = .int .i64 k ∧ k ≤ ss.length ∧
   wr.ownsRow w.heap.size 9 1 (.slice B (a_I (ss.take k)).length d) (a_I (ss.take k)).length ((a_I (ss.take k)).map str) ∧ Below w.heap.size w wr) (fun _ i _ => ss.length - (intOf i).toNat)
 case atStart => exact ⟨0, none, 0, rfl, rfl, o_, b_f _ _ _ _, b_ _ _⟩
 case round =>
  obtain ⟨k, B, d, rfl, rfl, hk, hown, hbel⟩ := hrel
  have hsz := hbel.size
  have hcl := e_2 (ss := ss) k hk
  by_cases hlt : k < ss.length
  ·rcases HA.out.below hbel with e | ⟨g, off, rfl, hg, hc⟩
   ·exact absurd hlt e_
   obtain ⟨a, ha, c0, c1, c2, c3, c4, c5⟩ := hc k hlt; have HT := a_2 (h_X (ss := ss) hlt); have HO := a_2 hown; have HH := a_2 (fun (x : a_3) W (hb : Below wr.heap.size wr W) => d_a B (a_I (ss.take k)) d x W ((a_W hown).below hb) o_); clear hc hown ha; generalize hF : a_I (ss.take k) = fl at *; clear hF; generalize ss[k] = x at *; obtain ⟨op, src, names, others, its, cond⟩ := x; obtain ⟨nA, nC, oA, oC, iA, iC, cA, cC⟩ := a; simp only at c0 c1 c2 c3 c4 c5; unfold h_l at HT; simp only at HT
   by_cases hr : h_V op = true
   ·by_cases hs : src = []
    ·subst hs
     have HN := a_2 (HT.out.trans (if_neg (fun h => h.2.1 rfl))); refine r_i ?_; intro hr2; clear HT hr
     rcases hr2 with rfl | ⟨q1, q2⟩
     all_goals
      go_wp2
      all_goals first | (exfalso; omega) | skip
      all_goals exact ⟨⟨k + 1, B, d, by rw [HN.out], t_, o_, by rw [HN.out]; exact a_g HO.out zX, zX⟩, w_⟩
    ·by_cases hm : src ∈ fl
     ·have HN := a_2 (HT.out.trans (if_neg (fun h => h.2.2 hm)))
      refine r_i ?_; intro hr2; have hmb : decide (src ∈ fl) = true := by simpa using hm
      have HH2 := a_2 (fun W hb => HH.out src W hb); rw [hmb] at HH2; refine q_K ?_; intro hs1 hs2; clear HT hr hm hmb HH
      rcases hr2 with rfl | ⟨q1, q2⟩
      all_goals
       go_wp2_with (go_at_call 34; refine (HH2.out _ zX).mono ?_; rintro e w' ⟨rfl, rfl⟩)
       all_goals first | (exfalso; omega) | skip
       all_goals exact ⟨⟨k + 1, B, d, by rw [HN.out], t_, o_, by rw [HN.out]; exact a_g HO.out zX, zX⟩, w_⟩
     ·have HN := a_2 (HT.out.trans (if_pos ⟨hr, hs, hm⟩))
      refine r_i ?_; intro hr2; have hmb : decide (src ∈ fl) = false := by simpa using hm
      have HH2 := a_2 (fun W hb => HH.out src W hb); rw [hmb] at HH2; refine q_K ?_; intro hs1 hs2; clear HT hr hm hmb HH
      rcases hr2 with rfl | ⟨q1, q2⟩
      all_goals
       go_wp2_with (first
        | (go_at_call 34; refine (HH2.out _ zX).mono ?_; rintro e w' ⟨rfl, rfl⟩)
        | (at_builtin; refine wpList_append_own _ rfl _ _ 26 rfl w.heap.size 9 i0 _ 1 16 underlying26 hi hz0 hz1 hz2 rfl d_ _ _ _ rfl (a_g HO.out zX) ⟨wr.heap.size + 1, 0, none⟩ 1 1 [str src] rfl rfl (by exact b_3 (by first | (have := heap_alloc_new (wr.alloc (.cells #[.int .i64 op, str src, .slice nA names.length nC, .slice oA others.length oC, .slice iA its.length iC, .slice cA cond.length cC] 129)) (.cells #[str src] 9); simpa using this) | (have := heap_alloc_new (wr.alloc (.cells #[.int .i64 0, str src, .slice nA names.length nC, .slice oA others.length oC, .slice iA its.length iC, .slice cA cond.length cC] 129)) (.cells #[str src] 9); simpa using this))) c_ x_ o_ m_ ?_; intro v' w3 hown3 hgrow _))
       all_goals first | (exfalso; omega) | skip
       all_goals
        obtain ⟨A3, c3', rfl⟩ := a_j hown3; refine _ae ?_; intro hb3 e1 e2 HFin; clear hown3 hgrow e1
        go_wp2
        exact r_U
   ·have HN := a_2 (HT.out.trans (if_neg (fun h => hr h.1)))
    have hr2 : op ≠ 0 ∧ (op < 4 ∨ 9 < op) := by unfold h_V at hr; simp at hr; omega
    obtain ⟨q0, q1⟩ := hr2; clear HT hr
    rcases q1 with q1 | q1
    all_goals
     go_wp2
     all_goals first | (exfalso; omega) | (exfalso; simp_all; done) | skip
     all_goals exact ⟨⟨k + 1, B, d, by rw [HN.out], t_, o_, by rw [HN.out]; exact a_g HO.out zX, zX⟩, w_⟩
  ·obtain rfl : k = ss.length := by omega
   rw [List.take_length] at hown ⊢; have HO := a_2 hown; clear hown
   go_wp2
   go_ret
   exact ⟨⟨B, d, rfl, HO.out⟩, hbel⟩
set_option maxRecDepth 512
theorem l_f : ∀ m : Nat, m ≤ 12 → i_H.getD (m * 5) false = h_V m
 | 0, _ => rfl
 | 1, _ => rfl
 | 2, _ => rfl
 | 3, _ => rfl
 | 4, _ => rfl
 | 5, _ => rfl
 | 6, _ => rfl
 | 7, _ => rfl
 | 8, _ => rfl
 | 9, _ => rfl
 | 10, _ => rfl
 | 11, _ => rfl
 | 12, _ => rfl
 | n + 13, h => absurd h o_
set_option maxRecDepth 100000
theorem g_A (A : Option Addr) (ss : List Stp) (c : Nat) (w : World) (hU : c_7 w) (h : b_L w A ss) (hl : ss.length ≤ 8796093022208) :
  Calls prog 105 #[.slice A ss.length c] w fun e w' => c_o w w' (a_I ss) e ∧ Below w.heap.size w w' := by
 have HA := a_2 h
 have HU := a_2 hU
 clear h hU
 refine l_R ?_; intro i0 hi hz0 hz1 hz2
 go_enter func105, ntmps105
 go_wp2
 go_loopw [3, 8] (fun s i wr => ∃ (k : Nat) (B : Option Addr) (d : Nat), s = .slice B (a_I (ss.take k)).length d ∧ i = .int .i64 k ∧ k ≤ ss.length ∧
   wr.ownsRow w.heap.size 9 1 (.slice B (a_I (ss.take k)).length d) (a_I (ss.take k)).length ((a_I (ss.take k)).map str) ∧ Below w.heap.size w wr) (fun _ i _ => ss.length - (intOf i).toNat)
 case atStart => exact ⟨0, none, 0, rfl, rfl, o_, b_f _ _ _ _, b_ _ _⟩
 case round =>
  obtain ⟨k, B, d, rfl, rfl, hk, hown, hbel⟩ := hrel
  have hsz := hbel.size
  have hcl := e_2 (ss := ss) k hk
  by_cases hlt : k < ss.length
  ·rcases HA.out.below hbel with e | ⟨g, off, rfl, hg, hc⟩
   ·exact absurd hlt e_
   obtain ⟨a, ha, c0, c1, c2, c3, c4, c5⟩ := hc k hlt; have HT := a_2 (h_X (ss := ss) hlt); have HO := a_2 hown; have HH := a_2 (fun (x : a_3) W (hb : Below wr.heap.size wr W) => b_k B (a_I (ss.take k)) d x W ((a_W hown).below hb) o_); have HU2 := a_2 (HU.out.below hbel); clear hc hown ha; generalize hF : a_I (ss.take k) = fl at *; clear hF; generalize ss[k] = x at *; obtain ⟨op, src, names, others, its, cond⟩ := x; obtain ⟨nA, nC, oA, oC, iA, iC, cA, cC⟩ := a; simp only at c0 c1 c2 c3 c4 c5; unfold h_l at HT; simp only at HT; generalize names.length = l1 at *; generalize others.length = l2 at *; generalize its.length = l3 at *; generalize cond.length = l4 at *
   by_cases hout : op < 0 ∨ 12 < op
   ·have hr : h_V op = false := by unfold h_V; simp; omega
    have HN := a_2 (HT.out.trans (if_neg (fun h => by rw [hr] at h; exact absurd h.1 d_))); clear HT hr
    rcases hout with q1 | q1
    all_goals
     go_wp2
     all_goals first | (exfalso; omega) | skip
     exact q_7
   obtain ⟨m, rfl⟩ : ∃ m : Nat, op = (m : Int) := ⟨op.toNat, o_⟩; have hm12 : m ≤ 12 := by omega
   have hmi : (m : Int) < 13 := by omega
   have hmn : m < 13 := by omega
   have u0 : wr.cell? ⟨2, m * 5, none⟩ = some (.bool (h_V m)) := by rw [← l_f m hm12]; exact HU2.out.2 (m * 5) o_
   have hgU := HU2.out.1; have hn0 : ¬ (m : Int) < 0 := by omega
   have hn12 : ¬ (12 : Int) < (m : Int) := by omega
   clear hout; generalize h_V m = rb at *
   cases rb
   ·have HN := a_2 (HT.out.trans (if_neg (fun h => absurd h.1 d_)))
    clear HT
    go_wp2
    all_goals first | (exfalso; omega) | skip
    exact q_7
   by_cases hs : src = []
   ·subst hs
    have HN := a_2 (HT.out.trans (if_neg (fun h => h.2.1 rfl))); clear HT
    go_wp2
    all_goals first | (exfalso; omega) | skip
    exact q_7
   refine q_K ?_; intro hs1 hs2
   by_cases hm : src ∈ fl
   ·have HN := a_2 (HT.out.trans (if_neg (fun h => h.2.2 hm)))
    have hmb : decide (src ∈ fl) = true := by simpa using hm
    have HH2 := a_2 (fun W hb => HH.out src W hb); rw [hmb] at HH2; clear HT hm hmb HH
    go_wp2_with (go_at_call 85; refine (HH2.out _ zX).mono ?_; rintro e w' ⟨rfl, rfl⟩)
    all_goals first | (exfalso; omega) | skip
    exact q_7
   ·have HN := a_2 (HT.out.trans (if_pos ⟨rfl, hs, hm⟩))
    have hmb : decide (src ∈ fl) = false := by simpa using hm
    have HH2 := a_2 (fun W hb => HH.out src W hb); rw [hmb] at HH2; clear HT hm hmb HH
    go_wp2_with (first
     | (go_at_call 85; refine (HH2.out _ zX).mono ?_; rintro e w' ⟨rfl, rfl⟩)
     | (at_builtin; refine wpList_append_own _ rfl _ _ 26 rfl w.heap.size 9 i0 _ 1 16 underlying26 hi hz0 hz1 hz2 rfl d_ _ _ _ rfl (a_g HO.out zX) ⟨wr.heap.size + 1, 0, none⟩ 1 1 [str src] rfl rfl (by exact b_3 (by have := heap_alloc_new (wr.alloc (.cells #[.int .i64 (m : Int), str src, .slice nA l1 nC, .slice oA l2 oC, .slice iA l3 iC, .slice cA l4 cC] 129)) (.cells #[str src] 9); simpa using this)) c_ x_ o_ m_ ?_; intro v' w3 hown3 hgrow _))
    all_goals first | (exfalso; omega) | skip
    obtain ⟨A3, c3', rfl⟩ := a_j hown3; refine _ae ?_; intro hb3 e1 e2 HFin; clear hown3 hgrow e1
    go_wp2
    exact r_U
  ·obtain rfl : k = ss.length := by omega
   rw [List.take_length] at hown ⊢; have HO := a_2 hown; clear hown
   go_wp2
   go_ret
   exact ⟨⟨B, d, rfl, HO.out⟩, hbel⟩
set_option maxRecDepth 512
structure Srx where
 name : a_3
 cols : List Col
 key : List a_3
 tm : a_3
 zone : a_3
 late : Int
 reop : Int
structure Mac where
 name : a_3
 params : List a_3
 body : List Nd
structure Mdl where
 name : a_3
 self : List Col
 query : List Stp
 part : a_3
 zone : a_3
 strat : Int
 owner : a_3
 cost : Int
structure Snp where
 name : a_3
 src : a_3
structure Chk where
 name : a_3
 table : a_3
 kind : Int
 cols : List a_3
 other : a_3
 ocols : List a_3
 low : Int
 high : Int
 cond : List Nd
 ln : Int
 ld : Int
 mn : Int
 md : Int
 pol : Int
structure Dfs where
 zones : List Zon
 srcs : List Srx
 macs : List Mac
 mdls : List Mdl
 snps : List Snp
 chks : List Chk
structure Mdu where
 name : a_3
 uses : List a_3
 defs : Dfs
abbrev Pl := Option Addr × Nat
abbrev slV (a : Pl) (n : Nat) : Value := .slice a.1 n a.2
def b_9 (w : World) (a : Pl) (l : List a_3) : Prop := b_b w a.1 l ∧ l.length ≤ a.2
theorem b_9.below {w w' : World} {a : Pl} {l : List a_3} (h : b_9 w a l) (hb : Below w.heap.size w w') : b_9 w' a l := ⟨h.1.below hb, h.2⟩
def o_0 (w : World) (g off : Nat) (vs : List Value) : Prop := ∀ i (h : i < vs.length), w.cell? ⟨g, off + i, none⟩ = some vs[i]
theorem o_0.below {w w' : World} {g off : Nat} {vs : List Value} (h : o_0 w g off vs) (hg : g < w.heap.size) (hb : Below w.heap.size w w') : o_0 w' g off vs :=
 fun i hi => (hb.cell (p := ⟨g, _, none⟩) hg).trans (h i hi)
abbrev Cel (α : Type) := World → α → List Value → Prop
def g_j {α : Type} (C : Cel α) : Prop := ∀ (w w' : World) (x : α) (vs : List Value), C w x vs → Below w.heap.size w w' → C w' x vs
def a_l {α : Type} (k : Nat) (C : Cel α) (w : World) (A : Option Addr) (xs : List α) : Prop :=
 xs = [] ∨ ∃ g off, A = some ⟨g, off, none⟩ ∧ g < w.heap.size ∧ ∀ i (h : i < xs.length), ∃ vs, C w xs[i] vs ∧ o_0 w g (off + i * k) vs
theorem a_l.below {α : Type} {k : Nat} {C : Cel α} (hP : g_j C) {w w' : World} {A : Option Addr} {xs : List α} (h : a_l k C w A xs) (hb : Below w.heap.size w w') : a_l k C w' A xs := by
 rcases h with h | ⟨g, off, hA, hg, hc⟩
 ·exact .inl h
 ·refine .inr ⟨g, off, hA, Nat.lt_of_lt_of_le hg hb.size, fun i hi => ?_⟩
  obtain ⟨vs, h1, h2⟩ := hc i hi
  exact ⟨vs, hP _ _ _ _ h1 hb, h2.below hg hb⟩
abbrev Zon.cells (z : Zon) (a : Pl) : List Value := [str z.name, .int .i64 z.off, slV a z.sh.length]
def g_a : Cel Zon := fun w z vs => ∃ a : Pl, h_B w a.1 z.sh ∧ vs = z.cells a
abbrev Srx.cells (s : Srx) (a b : Pl) : List Value := [str s.name, slV a s.cols.length, slV b s.key.length, str s.tm, str s.zone, .int .i64 s.late, .int .i64 s.reop]
def h_f : Cel Srx := fun w s vs => ∃ a b : Pl, b_1 w a.1 s.cols ∧ b_9 w b s.key ∧ vs = s.cells a b
abbrev Mac.cells (s : Mac) (a b : Pl) : List Value := [str s.name, slV a s.params.length, slV b s.body.length]
def f_J : Cel Mac := fun w s vs => ∃ a b : Pl, b_9 w a s.params ∧ b_q w b.1 s.body ∧ vs = s.cells a b
abbrev Mdl.cells (s : Mdl) (a b : Pl) : List Value := [str s.name, slV a s.self.length, slV b s.query.length, str s.part, str s.zone, .int .i64 s.strat, str s.owner, .int .i64 s.cost]
def f_I : Cel Mdl := fun w s vs => ∃ a b : Pl, b_1 w a.1 s.self ∧ b_L w b.1 s.query ∧ vs = s.cells a b
abbrev Snp.cells (s : Snp) : List Value := [str s.name, str s.src]
def i_i : Cel Snp := fun w s vs => vs = s.cells
abbrev Chk.cells (s : Chk) (a b c : Pl) : List Value := [str s.name, str s.table, .int .i64 s.kind, slV a s.cols.length, str s.other, slV b s.ocols.length, .int .i64 s.low, .int .i64 s.high, slV c s.cond.length, .int .i64 s.ln, .int .i64 s.ld, .int .i64 s.mn, .int .i64 s.md, .int .i64 s.pol]
def f_h : Cel Chk := fun w s vs => ∃ a b c : Pl, b_9 w a s.cols ∧ b_9 w b s.ocols ∧ b_q w c.1 s.cond ∧ vs = s.cells a b c
structure DAdr where
 z : Pl
 s : Pl
 m : Pl
 d : Pl
 n : Pl
 c : Pl
abbrev Dfs.cells (d : Dfs) (a : DAdr) : List Value := [slV a.z d.zones.length, slV a.s d.srcs.length, slV a.m d.macs.length, slV a.d d.mdls.length, slV a.n d.snps.length, slV a.c d.chks.length]
structure Dfs.Sl (w : World) (d : Dfs) (a : DAdr) : Prop where
 hz : a_l 3 g_a w a.z.1 d.zones
 hs : a_l 7 h_f w a.s.1 d.srcs
 hm : a_l 3 f_J w a.m.1 d.macs
 hd : a_l 8 f_I w a.d.1 d.mdls
 hn : a_l 2 i_i w a.n.1 d.snps
 hc : a_l 14 f_h w a.c.1 d.chks
abbrev Mdu.cells (m : Mdu) (u : Pl) (a : DAdr) : List Value := str m.name :: slV u m.uses.length :: m.defs.cells a
def f_g : Cel Mdu := fun w m vs => ∃ (u : Pl) (a : DAdr), b_9 w u m.uses ∧ m.defs.Sl w a ∧ vs = m.cells u a
abbrev c_b := a_l 8 f_g
theorem g_a.kept : g_j g_a := fun _ _ _ _ ⟨a, h, e⟩ hb => ⟨a, h.below hb, e⟩
theorem h_f.kept : g_j h_f := fun _ _ _ _ ⟨a, b, h, i, e⟩ hb => ⟨a, b, h.below hb, i.below hb, e⟩
theorem f_J.kept : g_j f_J := fun _ _ _ _ ⟨a, b, h, i, e⟩ hb => ⟨a, b, h.below hb, i.below hb, e⟩
theorem f_I.kept : g_j f_I := fun _ _ _ _ ⟨a, b, h, i, e⟩ hb => ⟨a, b, h.below hb, i.below hb, e⟩
theorem i_i.kept : g_j i_i := fun _ _ _ _ e _ => e
theorem f_h.kept : g_j f_h := fun _ _ _ _ ⟨a, b, c, h, i, j, e⟩ hb => ⟨a, b, c, h.below hb, i.below hb, j.below hb, e⟩
theorem Dfs.Sl.below {w w' : World} {d : Dfs} {a : DAdr} (h : d.Sl w a) (hb : Below w.heap.size w w') : d.Sl w' a :=
 ⟨a_l.below g_a.kept h.hz hb, a_l.below h_f.kept h.hs hb, a_l.below f_J.kept h.hm hb, a_l.below f_I.kept h.hd hb, a_l.below i_i.kept h.hn hb, a_l.below f_h.kept h.hc hb⟩
theorem f_g.kept : g_j f_g := fun _ _ _ _ ⟨u, a, h, hd, e⟩ hb => ⟨u, a, h.below hb, hd.below hb, e⟩
-- what keeps to the bounds of any memory
structure Srx.ok (s : Srx) : Prop where
 name : s.name.length ≤ maxLen
 zone : s.zone.length ≤ maxLen
 cols : s.cols.length ≤ 8796093022208
 key : s.key.length ≤ 8796093022208
structure Mac.ok (s : Mac) : Prop where
 name : s.name.length ≤ maxLen
 params : s.params.length ≤ 8796093022208
 body : s.body.length ≤ 8796093022208
 bodyN : b_Q s.body
structure Mdl.ok (s : Mdl) : Prop where
 name : s.name.length ≤ maxLen
 zone : s.zone.length ≤ maxLen
 self : s.self.length ≤ 8796093022208
 query : s.query.length ≤ 8796093022208
 step : m_e s.query
structure Snp.ok (s : Snp) : Prop where
 name : s.name.length ≤ maxLen
 src : s.src.length ≤ maxLen
structure Chk.ok (s : Chk) : Prop where
 name : s.name.length ≤ maxLen
 table : s.table.length ≤ maxLen
 other : s.other.length ≤ maxLen
 cols : s.cols.length ≤ 8796093022208
 ocols : s.ocols.length ≤ 8796093022208
 cond : s.cond.length ≤ 8796093022208
 condN : b_Q s.cond
structure Dfs.ok (d : Dfs) : Prop where
 zone : ∀ x ∈ d.zones, x.name.length ≤ maxLen ∧ x.sh.length ≤ 8796093022208
 src : ∀ x ∈ d.srcs, x.ok
 mac : ∀ x ∈ d.macs, x.ok
 mdl : ∀ x ∈ d.mdls, x.ok
 snp : ∀ x ∈ d.snps, x.ok
 chk : ∀ x ∈ d.chks, x.ok
 lz : d.zones.length ≤ 8796093022208
 ls : d.srcs.length ≤ 8796093022208
 lm : d.macs.length ≤ 8796093022208
 ld : d.mdls.length ≤ 8796093022208
 ln : d.snps.length ≤ 8796093022208
 lc : d.chks.length ≤ 8796093022208
structure Mdu.ok (m : Mdu) : Prop where
 uses : m.uses.length ≤ 8796093022208
 defs : m.defs.ok
def g_O (ms : List Mdu) : Prop := ∀ m ∈ ms, m.ok
-- the plain law
def a_b (p : Prop) [Decidable p] (e : Int) : Int := if p then e else 0
def i_O (cs : List Col) : Bool := cs.any fun c => c_T c.name
def e_K (cs : List Col) : Int := a_c (c_t cs) (a_b (i_O cs = true) 4)
def h_c (cs : List Col) (key : List a_3) : Bool := (e_E cs key).any fun i => (f_s cs i).null
def c_U (s : Srx) : Int :=
 a_c (e_K s.cols) (a_c (a_b (s.key.length < 1 ∨ 12 < s.key.length) 2) (a_c (j_q s.cols s.key) (a_c (a_b (h_c s.cols s.key = true) 7)
  (a_c (a_b (c_k s.cols s.tm < 0) 5) (a_c (a_b ((f_s s.cols (c_k s.cols s.tm)).kind ≠ 4 ∨ (f_s s.cols (c_k s.cols s.tm)).null = true) 7)
   (a_c (a_L s.zone) (a_b (s.late < 0 ∨ 575999999 < s.late ∨ s.reop < 0 ∨ 575999999 < s.reop) 1)))))))
def f_9 (l : List a_3) (most : Nat) : Int := if most < l.length then 2 else a_o (d_O l) l.length
def d_0 (ps : List a_3) (es : List Nd) : Bool := es.any fun n => n.op == 1 && !c_N ps n.name
def e_i (m : Mac) : Int := a_c (f_9 m.params 8) (a_c (a_u m.body) (a_b (d_0 m.params m.body = true) 5))
def d_M : a_3 := [99, 111, 115, 116]
def e_m (m : Mdl) : Int :=
 a_c (if m.self = [] then 0 else e_K m.self) (a_c (b_o m.query) (a_c (a_b (decide (m.self ≠ []) ≠ c_N (a_I m.query) b_P) 8)
  (a_c (a_b (decide (m.part = []) ≠ decide (m.zone = []) ∨ (m.self ≠ [] ∧ m.part = [])) 8) (a_c (if m.part = [] then 0 else a_F m.part) (a_c (if m.zone = [] then 0 else a_L m.zone)
   (a_c (a_b (m.strat < 0 ∨ 2 < m.strat) 1) (a_c (a_b (m.owner ≠ [] ∧ (a_i 24 m.owner = false ∨ m.owner = d_M)) 4) (a_b (m.cost < 1 ∨ 16 < m.cost) 1))))))))
def e_O (n d : Int) : Bool := decide (0 ≤ n) && decide (n ≤ 1073741824) && decide (1 ≤ d) && decide (d ≤ 1073741824)
def c_Z (c : Chk) : Bool :=
 ((c.kind == 4 || c.kind == 5) && c.cols.length != 0) || (!(c.kind == 3 || c.kind == 6) && (c.other != [] || c.ocols.length != 0)) || (c.kind != 2 && (c.low != 0 || c.high != 0)) || (!(c.kind == 4 || c.kind == 5) && c.cond.length != 0) || (c.kind != 5 && (c.ln != 0 || c.ld != 0 || c.mn != 0 || c.md != 0))
def e_c (c : Chk) : Int :=
 if c.kind = 0 ∨ c.kind = 1 then a_z c.cols 1
 else if c.kind = 2 then a_c (a_b (c.cols.length ≠ 1) 2) (a_c (a_F (c.cols.getD 0 [])) (a_b (c.low < -1073741824 ∨ c.high < c.low ∨ 1073741824 < c.high) 1))
 else if c.kind = 3 then a_c (a_z c.cols 1) (a_c (a_z c.ocols 1) (a_c (a_b (c.cols.length ≠ c.ocols.length) 8) (a_L c.other)))
 else if c.kind = 4 then a_u c.cond
 else if c.kind = 5 then a_c (a_u c.cond) (a_b (e_O c.ln c.ld = false ∨ e_O c.mn c.md = false) 1)
 else a_c (a_b (c.cols.length ≠ 1 ∨ c.ocols.length ≠ 1) 2) (a_c (a_F (c.cols.getD 0 [])) (a_c (a_F (c.ocols.getD 0 [])) (a_L c.other)))
def e_x (c : Chk) : Int :=
 a_c (a_L c.table) (a_c (a_b (c.kind < 0 ∨ 6 < c.kind ∨ c.pol < 0 ∨ 2 < c.pol) 1) (a_c (a_b (c_Z c = true) 8) (a_c (e_c c) (a_b (c.pol = 0 ∧ 5 ≤ c.kind) 7))))
def c_S (before names : List a_3) (good : a_3 → Bool) (own : Nat → Int) (i : Nat) : Int :=
 a_c (a_b ((qlB (names.getD i []) && good (names.getD i [])) = false) 4) (a_c (a_b (names.getD i [] ∈ before ++ names.take i) 6) (own i))
def a_A (before names : List a_3) (good : a_3 → Bool) (own : Nat → Int) : Int := if 64 < names.length then 2 else a_o (c_S before names good own) names.length
def a_n : a_3 → Bool := fun _ => true
def Dfs.srcN (d : Dfs) : List a_3 := d.srcs.map Srx.name
def Dfs.mdlN (d : Dfs) : List a_3 := d.mdls.map Mdl.name
def Dfs.snpN (d : Dfs) : List a_3 := d.snps.map Snp.name
def a_X {α : Type} (xs : List α) (f : α → Int) (i : Nat) : Int := match xs[i]? with
 | some x => f x
 | none => 0
theorem c_n {α : Type} {xs : List α} {f : α → Int} {i : Nat} (h : i < xs.length) : a_X xs f i = f xs[i] := by
 unfold a_X; rw [List.getElem?_eq_getElem h]
def f_T (z : Zon) : Int := m_G z.off z.sh
def f_B (s : Snp) : Int := a_L s.src
def f_q (d : Dfs) : Int :=
 a_c (a_A [] (d.zones.map Zon.name) a_n (a_X d.zones f_T)) (a_c (a_A [] d.srcN a_n (a_X d.srcs c_U)) (a_c (a_A [] (d.macs.map Mac.name) (fun s => !biB s) (a_X d.macs e_i))
  (a_c (a_A d.srcN d.mdlN a_n (a_X d.mdls e_m)) (a_c (a_A (d.srcN ++ d.mdlN) d.snpN a_n (a_X d.snps f_B)) (a_A [] (d.chks.map Chk.name) a_n (a_X d.chks e_x))))))
def Dfs.names (d : Dfs) : List a_3 := d.zones.map Zon.name ++ (d.srcN ++ (d.macs.map Mac.name ++ (d.mdlN ++ (d.snpN ++ d.chks.map Chk.name))))
def b_e (s : a_3) : Bool := s.any fun c => c.toNat == 46
def c_9 (ms : List Mdu) : List a_3 := ms.map Mdu.name
def l_K (all : List a_3) (name : a_3) (uses : List a_3) (k : Nat) : Int :=
 if uses.getD k [] ∈ all then a_b (uses.getD k [] = name ∨ uses.getD k [] ∈ uses.take k) 6 else 5
def e_B (all : List a_3) (m : Mdu) : Int := if 16 < m.uses.length then 2 else a_o (l_K all m.name m.uses) m.uses.length
def n_b (ms : List Mdu) (i : Nat) (m : Mdu) : Int :=
 a_c (a_F m.name) (a_c (a_b (m.name ∈ (c_9 ms).take i) 6) (a_c (e_B (c_9 ms) m) (a_c (f_q m.defs) (a_b (m.defs.names.any b_e = true) 4))))
def e_A (ms : List Mdu) : Int := if 16 < ms.length then 2 else a_o (fun i => match ms[i]? with
 | some m => n_b ms i m
 | none => 0) ms.length
end Go.Proofs.YtnpjibaolicbmaaGreatDoor
