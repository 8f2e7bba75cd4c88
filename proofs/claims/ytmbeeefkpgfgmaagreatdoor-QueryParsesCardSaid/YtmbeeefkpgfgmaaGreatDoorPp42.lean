/- Parts of the proof. -/
import Derived.Test.YtmbeeefkpgfgmaaGreatDoorPp41
import Derived.Test.YtmbeeefkpgfgmaaGreatDoorPp37
set_option linter.unusedVariables false
set_option linter.unusedSimpArgs false
namespace Go.Proofs.YtmbeeefkpgfgmaaGreatDoor
open Go.Proofs.Tryz
open Go.ChangeShapes Go.WideShapes Go.ChangeAt Go.RowKit
theorem Step.cNd : prog.cellsOf 116 = 6 := by kernel_rfl
theorem Step.cVal : prog.cellsOf 114 = 3 := by kernel_rfl
set_option maxRecDepth 100000
theorem Step.nd_of_cells {H : Type} {enc : TypeId × Value → H} {W : World} {held : Bool} {fuel : Nat} {cs : List Value} {x : DataW H × List MemPlace} (hl : cs.length = 6)
  (h : DataW.trod enc prog W 0 (fun _ => true) held fuel 116 cs = some x) : ∃ n : Nd, cs = n.cells ∧ n.name.length ≤ maxLen ∧ n.val.text.length ≤ maxLen ∧ (Lit.int IntKind.i64 n.op).wf = true ∧ (Lit.int IntKind.i64 n.val.kind).wf = true ∧ (Lit.int IntKind.i64 n.val.num).wf = true ∧ (Lit.int IntKind.i64 n.arity).wf = true := by
 obtain ⟨ys, k, _, _, _, hyl, hg⟩ := DataW.trod_struct underlying116 h
 match cs, hl with
 | [c0, c1, c2, c3, c4, c5], _ =>
  match ys, hyl with
  | [y0, y1, y2, y3], _ =>
   have g0 : DataW.trod enc prog W 0 (fun _ => true) held k 3 (([c0, c1, c2, c3, c4, c5].drop 0).take (prog.cellsOf 3)) = some y0 := hg 0 _ rfl; have g1 : DataW.trod enc prog W 0 (fun _ => true) held k 114 (([c0, c1, c2, c3, c4, c5].drop 1).take (prog.cellsOf 114)) = some y1 := hg 1 _ rfl; have g2 : DataW.trod enc prog W 0 (fun _ => true) held k 9 (([c0, c1, c2, c3, c4, c5].drop 4).take (prog.cellsOf 9)) = some y2 := hg 2 _ rfl; have g3 : DataW.trod enc prog W 0 (fun _ => true) held k 3 (([c0, c1, c2, c3, c4, c5].drop 5).take (prog.cellsOf 3)) = some y3 := hg 3 _ rfl; rw [Step.cInt] at g0 g3; rw [Step.cStr] at g2; rw [Step.cVal] at g1; obtain ⟨zs, k2, _, _, _, hzl, hv⟩ := DataW.trod_struct underlying114 g1
   match zs, hzl with
   | [z0, z1, z2], _ =>
    have v0 : DataW.trod enc prog W 0 (fun _ => true) held k2 3 (([c1, c2, c3].drop 0).take (prog.cellsOf 3)) = some z0 := hv 0 _ rfl; have v1 : DataW.trod enc prog W 0 (fun _ => true) held k2 3 (([c1, c2, c3].drop 1).take (prog.cellsOf 3)) = some z1 := hv 1 _ rfl; have v2 : DataW.trod enc prog W 0 (fun _ => true) held k2 9 (([c1, c2, c3].drop 2).take (prog.cellsOf 9)) = some z2 := hv 2 _ rfl; rw [Step.cInt] at v0 v1; rw [Step.cStr] at v2; obtain ⟨n0, e0, _, f0⟩ := DataW.trod_int underlying3 g0; obtain ⟨n1, e1, _, f1⟩ := DataW.trod_int underlying3 v0; obtain ⟨n2, e2, _, f2⟩ := DataW.trod_int underlying3 v1; obtain ⟨s3, e3, _, f3⟩ := DataW.trod_string underlying9 v2; obtain ⟨s4, e4, _, f4⟩ := DataW.trod_string underlying9 g2; obtain ⟨n5, e5, _, f5⟩ := DataW.trod_int underlying3 g3
    simp at e0 e1 e2 e3 e4 e5
    subst e0 e1 e2 e3 e4 e5; exact ⟨⟨n0, ⟨n1, n2, bs s3⟩, bs s4, n5⟩, by show _ = [_, _, _, Value.string ⟨(bs s3).toArray⟩, Value.string ⟨(bs s4).toArray⟩, _]; rw [k_0, k_0], f4, f3, f0, f1, f2, f5⟩
namespace Step
end Step
set_option maxRecDepth 512
namespace Step
theorem cF : prog.cellsOf 83 = 5 := by kernel_rfl
theorem cFs : prog.cellsOf 84 = 65 := by kernel_rfl
theorem u_E : prog.cellsOf 4 = 1 := by kernel_rfl
theorem uFs : prog.underlying 84 = some (.array 13 83) := by kernel_rfl
theorem gU : prog.globalNamed "warehouse/query.used" = some 0 := by kernel_rfl
theorem tU : (prog.globals[ 0 ]?).map (·.type) = some 84 := by kernel_rfl
set_option maxRecDepth 100000
theorem n_7 {W : World} {held : Bool} {f : Nat} {cs : List Value} {x : DataW Unit × List MemPlace} (hl : cs.length = 5) (h : DataW.trod (fun _ => ()) prog W 0 (fun _ => true) held f 83 cs = some x) :
  ∃ b0 b1 b2 b3 b4 : Bool, cs = [.bool b0, .bool b1, .bool b2, .bool b3, .bool b4] ∧ x.1 = .agg [.lit (.bool b0), .lit (.bool b1), .lit (.bool b2), .lit (.bool b3), .lit (.bool b4)] := by
 obtain ⟨ys, k, _, hy, _, hyl, hg⟩ := DataW.trod_struct underlying83 h
 match cs, hl with
 | [c0, c1, c2, c3, c4], _ =>
  match ys, hyl with
  | [y0, y1, y2, y3, y4], _ =>
   have g0 : DataW.trod (fun _ => ()) prog W 0 (fun _ => true) held k 4 (([c0, c1, c2, c3, c4].drop 0).take (prog.cellsOf 4)) = some y0 := hg 0 _ rfl; have g1 : DataW.trod (fun _ => ()) prog W 0 (fun _ => true) held k 4 (([c0, c1, c2, c3, c4].drop 1).take (prog.cellsOf 4)) = some y1 := hg 1 _ rfl; have g2 : DataW.trod (fun _ => ()) prog W 0 (fun _ => true) held k 4 (([c0, c1, c2, c3, c4].drop 2).take (prog.cellsOf 4)) = some y2 := hg 2 _ rfl; have g3 : DataW.trod (fun _ => ()) prog W 0 (fun _ => true) held k 4 (([c0, c1, c2, c3, c4].drop 3).take (prog.cellsOf 4)) = some y3 := hg 3 _ rfl; have g4 : DataW.trod (fun _ => ()) prog W 0 (fun _ => true) held k 4 (([c0, c1, c2, c3, c4].drop 4).take (prog.cellsOf 4)) = some y4 := hg 4 _ rfl; rw [u_E] at g0 g1 g2 g3 g4; obtain ⟨b0, e0, z0⟩ := DataW.trod_bool underlying4 g0; obtain ⟨b1, e1, z1⟩ := DataW.trod_bool underlying4 g1; obtain ⟨b2, e2, z2⟩ := DataW.trod_bool underlying4 g2; obtain ⟨b3, e3, z3⟩ := DataW.trod_bool underlying4 g3; obtain ⟨b4, e4, z4⟩ := DataW.trod_bool underlying4 g4
   simp at e0 e1 e2 e3 e4
   subst e0 e1 e2 e3 e4 z0 z1 z2 z3 z4; exact ⟨b0, b1, b2, b3, b4, rfl, by rw [hy]; rfl⟩
def h_Y : List (DataW Unit) := match (Rows.laid_warehouse_query_used : DataW Unit) with
 | .agg l => l
 | _ => []
set_option maxRecDepth 512
theorem k_3 : ∀ a : Nat, a < 13 → ∃ b0 b1 b2 b3 b4 : Bool, h_Y[a]? = some (.agg [.lit (.bool b0), .lit (.bool b1), .lit (.bool b2), .lit (.bool b3), .lit (.bool b4)]) ∧ k_S.getD (a * 5) false = b0 ∧ k_S.getD (a * 5 + 1) false = b1 ∧ k_S.getD (a * 5 + 2) false = b2 ∧ k_S.getD (a * 5 + 3) false = b3 ∧ k_S.getD (a * 5 + 4) false = b4
 | 0, _ => ⟨_, _, _, _, _, rfl, rfl, rfl, rfl, rfl, rfl⟩
 | 1, _ => ⟨_, _, _, _, _, rfl, rfl, rfl, rfl, rfl, rfl⟩
 | 2, _ => ⟨_, _, _, _, _, rfl, rfl, rfl, rfl, rfl, rfl⟩
 | 3, _ => ⟨_, _, _, _, _, rfl, rfl, rfl, rfl, rfl, rfl⟩
 | 4, _ => ⟨_, _, _, _, _, rfl, rfl, rfl, rfl, rfl, rfl⟩
 | 5, _ => ⟨_, _, _, _, _, rfl, rfl, rfl, rfl, rfl, rfl⟩
 | 6, _ => ⟨_, _, _, _, _, rfl, rfl, rfl, rfl, rfl, rfl⟩
 | 7, _ => ⟨_, _, _, _, _, rfl, rfl, rfl, rfl, rfl, rfl⟩
 | 8, _ => ⟨_, _, _, _, _, rfl, rfl, rfl, rfl, rfl, rfl⟩
 | 9, _ => ⟨_, _, _, _, _, rfl, rfl, rfl, rfl, rfl, rfl⟩
 | 10, _ => ⟨_, _, _, _, _, rfl, rfl, rfl, rfl, rfl, rfl⟩
 | 11, _ => ⟨_, _, _, _, _, rfl, rfl, rfl, rfl, rfl, rfl⟩
 | 12, _ => ⟨_, _, _, _, _, rfl, rfl, rfl, rfl, rfl, rfl⟩
 | n + 13, h => absurd h o_
theorem m_x {W : World} {cs : Array Value} {f : Nat} {p : List MemPlace} {held : Bool} (hv : W.var? prog "warehouse/query.used" = some cs)
  (hd : DataW.trod (fun _ => ()) prog W 0 (fun _ => true) held f 84 cs.toList = some (Rows.laid_warehouse_query_used, p)) : b_R W := by
 obtain ⟨xs, m, _, hx, hlen, hn, hel⟩ := DataW.trod_array uFs hd
 rw [cFs] at hlen
 have hparts : h_Y = xs.map (·.1) := by
  have h1 : (Rows.laid_warehouse_query_used : DataW Unit) = .agg (xs.map (·.1)) := congrArg Prod.fst hx
  unfold h_Y
  rw [h1]
 have read : ∀ j, j < 65 → W.cell? ⟨0, j, none⟩ = some (.bool (k_S.getD j false)) := fun j hj => by
  have ha : j / 5 < 13 := by omega
  have h := hel (j / 5) ha
  rw [cF] at h
  have hja : j / 5 < xs.length := by omega
  rw [List.getElem?_eq_getElem hja] at h
  have hl5 : ((cs.toList.drop (j / 5 * 5)).take 5).length = 5 := by rw [List.length_take, List.length_drop]; omega
  obtain ⟨b0, b1, b2, b3, b4, e, e2⟩ := n_7 hl5 h
  obtain ⟨d0, d1, d2, d3, d4, hp, u0, u1, u2, u3, u4⟩ := k_3 (j / 5) ha
  rw [hparts, List.getElem?_map, List.getElem?_eq_getElem hja, Option.map_some, e2] at hp
  simp only [Option.some.injEq, DataW.agg.injEq, List.cons.injEq, DataW.lit.injEq, Lit.bool.injEq, and_true] at hp
  obtain ⟨rfl, rfl, rfl, rfl, rfl⟩ := hp
  have hc : cs[j]? = ([Value.bool b0, .bool b1, .bool b2, .bool b3, .bool b4] : List Value)[j % 5]? := by
   rw [← e, List.getElem?_take, if_pos o_, List.getElem?_drop, show j / 5 * 5 + j % 5 = j by omega]
   simp
  rw [World.var?_cell gU hv j, hc]
  have hr : j % 5 < 5 := by omega
  have hj2 : j = j / 5 * 5 + j % 5 := by omega
  generalize j % 5 = r at *
  generalize j / 5 = a at *
  subst hj2
  match r, hr with
  | 0, _ => rw [Nat.add_zero, u0]; rfl
  | 1, _ => rw [u1]; rfl
  | 2, _ => rw [u2]; rfl
  | 3, _ => rw [u3]; rfl
  | 4, _ => rw [u4]; rfl
 exact u_q
end Step
namespace Step
theorem tSy : (prog.globals[ 3 ]?).map (·.type) = some 23 := by kernel_rfl
theorem w_6 : prog.globalNamed "warehouse/query.stepWords" = some 1 := by kernel_rfl
theorem w_M : (prog.globals[ 1 ]?).map (·.type) = some 146 := by kernel_rfl
theorem w_S : prog.underlying 146 = some (.array 13 9) := by kernel_rfl
theorem w_V : prog.cellsOf 146 = 13 := by kernel_rfl
theorem m_g {W : World} {cs : Array Value} {f : Nat} {p : List MemPlace} {held : Bool} (hv : W.var? prog "warehouse/query.stepWords" = some cs)
  (hd : DataW.trod (fun _ => ()) prog W 0 (fun _ => true) held f 146 cs.toList = some (.agg (d_Z.map fun x => .lit (.string x)), p)) : d_r W := by
 obtain ⟨xs, m, rfl, hx, hlen, hn, hel⟩ := DataW.trod_array w_S hd
 rw [w_V] at hlen
 simp only [Prod.mk.injEq, DataW.agg.injEq] at hx
 have read : ∀ j, j < 13 → W.cell? ⟨1, j, none⟩ = some (str (d_Z.getD j [])) := fun j hj => by
  have h := hel j hj
  rw [cStr] at h
  have hj' : j < xs.length := by omega
  have hc : j < cs.toList.length := by omega
  rw [List.getElem?_eq_getElem hj'] at h
  obtain ⟨s, e1, e2, _⟩ := DataW.trod_string underlying9 h
  have h3 : cs[j]? = some (.string s) := by
   have := congrArg (·[0]?) e1
   simp at this
   simpa using this
  have h4 : d_Z.getD j [] = s.data.toList := by
   have h5 := congrArg (·[j]?) hx.1; simp only [List.getElem?_map, List.getElem?_eq_getElem hj', e2, Option.map_some] at h5; rw [List.getD_eq_getElem?_getD]
   cases hm : d_Z[j]? with
   | none => rw [hm] at h5; cases h5
   | some k => rw [hm] at h5; simpa using h5
  have := World.var?_cell w_6 hv j
  rw [h4, this]
  exact h3
 exact u_q
def laidP : List (String × DataW Unit) := Rows.queryParsesRow.laid
theorem door_metP (os : Os) (args : Array Value) : laidMetH prog laidP ((World.laidAll prog os laidP).forCall (fun _ _ => 0) ⟨#[], args, []⟩).memory := by
 rw [MakeChecks.laidMetH_plain _ _ _ k_]
 exact laidMet_laidAll args k_ k_
theorem door_shapedP (os : Os) (args : Array Value) : ((World.laidAll prog os laidP).forCall (fun _ _ => 0) ⟨#[], args, []⟩).Shaped prog :=
 World.shaped_of_ZipB k_ k_
theorem u_h : (prog.globals[ 6 ]?).map (·.type) = some 299 := by kernel_rfl
theorem p_D {W : World} (h : laidMetH prog laidP W) : Lib.TabIs prog W "internal/strconv.uint64pow10" .u64 Lib.pow10Tab := by
 have h2 := h.filter (fun x => x.1 == "internal/strconv.uint64pow10")
 have e : laidP.filter (fun x => x.1 == "internal/strconv.uint64pow10") = [("internal/strconv.uint64pow10", Rows.laid_internal_strconv_uint64pow10)] := by
  simp [laidP, Rows.queryParsesRow, List.filter]
 rw [e, MakeChecks.laidMetH_plain _ _ _ k_] at h2
 exact Lib.tabIs_of_head (n := 20) u_Q u_h underlying299 underlying283 k_ k_ h2
theorem n_g {W : World} (h : laidMetH prog laidP W) : Glob W := by
 have h2 := h.filter (fun x => x.1 == "warehouse/civil.lengths" || x.1 == "warehouse/token.words" || x.1 == "warehouse/token.symbols")
 have e : laidP.filter (fun x => x.1 == "warehouse/civil.lengths" || x.1 == "warehouse/token.words" || x.1 == "warehouse/token.symbols") = [("warehouse/civil.lengths", Rows.laid_warehouse_civil_lengths), ("warehouse/token.words", Rows.laid_warehouse_token_words), ("warehouse/token.symbols", Rows.laid_warehouse_token_symbols)] := by
  simp [laidP, Rows.queryParsesRow, List.filter]
 rw [e, MakeChecks.laidMetH_plain _ _ _ k_] at h2
 obtain ⟨ps, ⟨g2, t2, cs2, f2, p2, q2, hg2, ht2, hv2, hd2, ⟨g0, t0, cs0, f0, p0, q0, hg0, ht0, hv0, hd0, ⟨g1, t1, cs1, f1, p1, q1, hg1, ht1, hv1, hd1, _, _⟩, _⟩, _⟩, _, _⟩ := h2
 obtain rfl := Option.some.inj (gL.symm.trans hg2)
 obtain rfl := Option.some.inj (gW.symm.trans hg0)
 obtain rfl := Option.some.inj (gS.symm.trans hg1)
 obtain rfl := Option.some.inj (tL.symm.trans ht2)
 obtain rfl := Option.some.inj (tW.symm.trans ht0)
 obtain rfl := Option.some.inj (tSy.symm.trans ht1)
 exact ⟨o_4 hv2 hd2, j_Z a_J hg0 hv0 hd0 d_, j_Z a_l hg1 hv1 hd1 d_⟩
theorem globP_of {W : World} (h : laidMetH prog laidP W) (hs : W.ShapedOpen prog) : GlobJ W :=
 ⟨n_g h, cell_of_shapedOpen_int (P := prog) (g := 4) (t := 3) (zero := #[.int .i64 0]) hs (of_decide_eq_true k_) k_ rfl k_ k_ underlying3, p_D h⟩
theorem usedP_of {W : World} (h : laidMetH prog laidP W) : b_R W ∧ d_r W := by
 have h2 := h.filter (fun x => x.1 == "warehouse/query.stepWords" || x.1 == "warehouse/query.used")
 have e : laidP.filter (fun x => x.1 == "warehouse/query.stepWords" || x.1 == "warehouse/query.used") = [("warehouse/query.stepWords", Rows.laid_warehouse_query_stepWords), ("warehouse/query.used", Rows.laid_warehouse_query_used)] := by
  simp [laidP, Rows.queryParsesRow, List.filter]
 rw [e, MakeChecks.laidMetH_plain _ _ _ k_] at h2
 obtain ⟨ps, ⟨g0, t0, cs0, f0, p0, q0, hg0, ht0, hv0, hd0, ⟨g1, t1, cs1, f1, p1, q1, hg1, ht1, hv1, hd1, _, _⟩, _⟩, _, _⟩ := h2
 obtain rfl := Option.some.inj (w_6.symm.trans hg0)
 obtain rfl := Option.some.inj (w_M.symm.trans ht0)
 obtain rfl := Option.some.inj (gU.symm.trans hg1)
 obtain rfl := Option.some.inj (tU.symm.trans ht1)
 exact ⟨m_x hv1 hd1, m_g hv0 hd0⟩
end Step
end Go.Proofs.YtmbeeefkpgfgmaaGreatDoor
