/- Contracts: comparisons, compare of expr's parser. -/
import Derived.Test.YtlfedcbihbigoaaGreatDoorPsEG
import Derived.Deep.CutRange
import Derived.Deep.RegionLaw
set_option linter.unusedVariables false
set_option linter.unusedSimpArgs false
namespace Go.Proofs.YtlfedcbihbigoaaGreatDoor
open Go.RowKit Go.WideMaps Go.Maps
def cmpT (x : Bytes) : Option (Int × Bool) :=
  if x = [61] then some (10, false) else if x = [33, 61] then some (11, false) else if x = [60] then some (12, false)
  else if x = [60, 61] then some (13, false) else if x = [62] then some (12, true) else if x = [62, 61] then some (13, true) else none
theorem cmpOf_T (t : Tok) : cmpOf t = if t.kind = 5 then cmpT t.text else none := by
  unfold cmpOf cmpT isSym
  by_cases hk : t.kind = 5 <;> simp [hk]
def cmpR (v : Value) : Option (DataW Unit × List MemPlace) := match v with
  | .agg ⟨[.int .i64 o, .bool b]⟩ => some (.agg [.lit (.int .i64 o), .lit (.bool b)], [])
  | _ => none
theorem cmpR_inv {v : Value} {o : Int} {b : Bool} {ps : List MemPlace} (h : cmpR v = some (.agg [.lit (.int .i64 o), .lit (.bool b)], ps)) : v = .agg #[.int .i64 o, .bool b] := by
  unfold cmpR at h
  split at h
  · rename_i o' b'
    injection h with h
    injection h with h _
    injection h with h
    injection h with h1 h2
    injection h1 with h1
    injection h1 with _ h1
    injection h2 with h2 _
    injection h2 with h2
    injection h2 with h2
    subst h1 h2
    rfl
  · cases h
def cv (o : Int) (b : Bool) : DataW Unit := .agg [.lit (.int .i64 o), .lit (.bool b)]
def cmpD : DataW Unit := ((((((DataW.map [] : DataW Unit).put (.string [61]) (cv 10 false)).put (.string [33, 61]) (cv 11 false)).put (.string [60]) (cv 12 false)).put (.string [60, 61]) (cv 13 false)).put (.string [62]) (cv 12 true)).put (.string [62, 61]) (cv 13 true)
theorem cmpD_is : cmpD = .map [(.string [33, 61], cv 11 false), (.string [60], cv 12 false), (.string [60, 61], cv 13 false), (.string [61], cv 10 false), (.string [62], cv 12 true), (.string [62, 61], cv 13 true)] := by rfl
theorem cmp_has (x : Bytes) : Maps.has cmpD (.string x) = (cmpT x).isSome ∧ cmpD.atKey (.string x) (cv 0 false) = cv ((cmpT x).getD (0, false)).1 ((cmpT x).getD (0, false)).2 := by
  rw [cmpD_is]
  by_cases h1 : x = [61]
  · subst h1; exact ⟨rfl, rfl⟩
  by_cases h2 : x = [33, 61]
  · subst h2; exact ⟨rfl, rfl⟩
  by_cases h3 : x = [60]
  · subst h3; exact ⟨rfl, rfl⟩
  by_cases h4 : x = [60, 61]
  · subst h4; exact ⟨rfl, rfl⟩
  by_cases h5 : x = [62]
  · subst h5; exact ⟨rfl, rfl⟩
  by_cases h6 : x = [62, 61]
  · subst h6; exact ⟨rfl, rfl⟩
  have e1 : (([61] : Bytes) == x) = false := beq_eq_false_iff_ne.2 (fun e => h1 e.symm)
  have e2 : (([33, 61] : Bytes) == x) = false := beq_eq_false_iff_ne.2 (fun e => h2 e.symm)
  have e3 : (([60] : Bytes) == x) = false := beq_eq_false_iff_ne.2 (fun e => h3 e.symm)
  have e4 : (([60, 61] : Bytes) == x) = false := beq_eq_false_iff_ne.2 (fun e => h4 e.symm)
  have e5 : (([62] : Bytes) == x) = false := beq_eq_false_iff_ne.2 (fun e => h5 e.symm)
  have e6 : (([62, 61] : Bytes) == x) = false := beq_eq_false_iff_ne.2 (fun e => h6 e.symm)
  simp [Maps.has, DataW.atKey, same_key, e1, e2, e3, e4, e5, e6, cmpT, h1, h2, h3, h4, h5, h6]
theorem zeroCm (w : World) : (zeroValue 161).run Tryz.prog w = .ok (.agg #[.int .i64 0, .bool false]) w := by kernel_rfl
set_option maxRecDepth 100000 in
theorem cmp_look {w : World} {B n : Nat} (h : w.ownsMap Tryz.prog 9 cmpR B n cmpD) (x : Bytes) (hs : x.length ≤ maxLen) :
    (Instr.lookup 163 (.map (some B)) (str x) true).run Tryz.prog w = .ok (.tuple #[.agg #[.int .i64 ((cmpT x).getD (0, false)).1, .bool ((cmpT x).getD (0, false)).2], .bool (cmpT x).isSome]) w := by
  obtain ⟨v, ps, hrun, hv⟩ := h.look_ok lawStr Tryz.underlying163 (zeroCm w) (zd := cv 0 false) (zp := []) rfl (keyOf_string_mk (s := ⟨x.toArray⟩) Tryz.underlying9 (by show x.toArray.size ≤ _; simpa using hs))
  have e : (⟨x.toArray⟩ : ByteArray).data.toList = x := rfl
  rw [e] at hrun hv
  obtain ⟨h1, h2⟩ := cmp_has x
  rw [h2] at hv
  have hv2 := cmpR_inv hv
  subst hv2
  rw [h1] at hrun
  exact hrun
set_option maxRecDepth 100000 in
set_option maxHeartbeats 2000000 in
theorem comparisons_any (w : World) : Calls Tryz.prog 124 #[] w fun e w' => (∃ B n, e = .returned (.map (some B)) ∧ w'.ownsMap Tryz.prog 9 cmpR B n cmpD) ∧ Below w.heap.size w w' := by
  have hmm := @run_makeMap Tryz.prog
  have hm := World.ownsMap_made (H := Unit) w Tryz.prog 9 cmpR
  obtain ⟨w1, r1, o1, g1⟩ := hm.update (t := 163) (val := .agg #[.int .i64 10, .bool false]) lawStr Tryz.underlying163 (by decide) (keyOf_string_mk (s := ⟨#[61]⟩) Tryz.underlying9 (by decide)) rfl
  obtain ⟨w2, r2, o2, g2⟩ := o1.update (t := 163) (val := .agg #[.int .i64 11, .bool false]) lawStr Tryz.underlying163 (by decide) (keyOf_string_mk (s := ⟨#[33, 61]⟩) Tryz.underlying9 (by decide)) rfl
  obtain ⟨w3, r3, o3, g3⟩ := o2.update (t := 163) (val := .agg #[.int .i64 12, .bool false]) lawStr Tryz.underlying163 (by decide) (keyOf_string_mk (s := ⟨#[60]⟩) Tryz.underlying9 (by decide)) rfl
  obtain ⟨w4, r4, o4, g4⟩ := o3.update (t := 163) (val := .agg #[.int .i64 13, .bool false]) lawStr Tryz.underlying163 (by decide) (keyOf_string_mk (s := ⟨#[60, 61]⟩) Tryz.underlying9 (by decide)) rfl
  obtain ⟨w5, r5, o5, g5⟩ := o4.update (t := 163) (val := .agg #[.int .i64 12, .bool true]) lawStr Tryz.underlying163 (by decide) (keyOf_string_mk (s := ⟨#[62]⟩) Tryz.underlying9 (by decide)) rfl
  obtain ⟨w6, r6, o6, g6⟩ := o5.update (t := 163) (val := .agg #[.int .i64 13, .bool true]) lawStr Tryz.underlying163 (by decide) (keyOf_string_mk (s := ⟨#[62, 61]⟩) Tryz.underlying9 (by decide)) rfl
  have HO := hide o6
  have hb : Below w.heap.size w w6 := by
    refine Below.grown (Below.grown (Below.grown (Below.grown (Below.grown (Below.grown ((Below.refl _ w).alloc (Nat.le_refl _) _) g1 ?_ ?_) g2 ?_ ?_) g3 ?_ ?_) g4 ?_ ?_) g5 ?_ ?_) g6 ?_ ?_
    all_goals first
      | (intro k hk; injection hk with hk; omega)
      | (have := g1.size; have := g2.size; have := g3.size; have := g4.size; have := g5.size; simp at *; first | done | omega)
  have HB := hide hb
  clear hm o1 o2 o3 o4 o5 o6 g1 g2 g3 g4 g5 g6 hb
  go_enter Tryz.func124, Tryz.ntmps124
  go_wp2
  go_ret
  first | exact ⟨⟨w.heap.size, 6, rfl, HO.out⟩, HB.out⟩ | exact ⟨⟨w.heap.size, rfl, 6, HO.out⟩, HB.out⟩
theorem step_own {P : Program} {ops : Array Oper} {o : Oper} {a : Act} {w : World} {K : Act → World → Prop} {Q : Exit → Act → World → Prop} {E : Prop} (hgd : o.guard = none) (s x : Operand) (t : TypeId)
    (ho : o.op = .call { callee := .builtin .append, args := #[s, x], argTypes := #[t, t] })
    (base : Nat) (e : TypeId) (i : TypeInfo) (z : Value) (size bytes : Nat) (ht : P.underlying t = some (.slice e)) (hi : P.info? e = some i) (hz : i.zero = some z)
    (hsize : i.size = size) (hby : i.bytes = bytes) (hzs : z.cells.size = size) (hsz : 0 < size)
    (v : Value) (n : Nat) (xs : List Value) (hs : a.eval s = v) (hown : w.ownsRow base e size v n xs)
    (ad : Addr) (m c : Nat) (news : List Value) (hx : a.eval x = .slice (some ad) m c) (hl : news.length = m * size) (hnews : ∀ j u, news[j]? = some u → w.cell? (ad.add j) = some u) (h1 : ∀ u ∈ news, u.oneCell' = true)
    (h63 : n + m ≤ maxLen) (hbytes : (n + m) * bytes ≤ 140737488355328) (hbase : base ≤ w.heap.size)
    (h : ∀ v' w', w'.ownsRow base e size v' (n + m) (xs ++ news) → w.grownBy w' v.ownBlock → K (a.put o.dst v') w') :
    if Region.wanted o (yielded ops a.tmps) = true then Oper.wp P o a w K Q else E := by
  have hw : Region.wanted o (yielded ops a.tmps) = true := by simp [Region.wanted, hgd]
  rw [if_pos hw]
  exact wp_append_own w s x t ho base e i z size bytes ht hi hz hsize hby hzs hsz v n xs hs hown ad m c news hx hl hnews h1 h63 hbytes hbase fun v' w' h2 h3 _ => h v' w' h2 h3
theorem step_none {P : Program} {ops : Array Oper} {o : Oper} {a : Act} {w : World} {K : Act → World → Prop} {Q : Exit → Act → World → Prop} {E : Prop} (hgd : o.guard = none) (s x : Operand) (t : TypeId)
    (ho : o.op = .call { callee := .builtin .append, args := #[s, x], argTypes := #[t, t] })
    (base : Nat) (e : TypeId) (i : TypeInfo) (size : Nat) (ht : P.underlying t = some (.slice e)) (hi : P.info? e = some i)
    (v : Value) (n : Nat) (xs : List Value) (hs : a.eval s = v) (hown : w.ownsRow base e size v n xs) (hx : a.eval x = .slice none 0 0)
    (h : K (a.put o.dst v) w) :
    if Region.wanted o (yielded ops a.tmps) = true then Oper.wp P o a w K Q else E := by
  have hw : Region.wanted o (yielded ops a.tmps) = true := by simp [Region.wanted, hgd]
  rw [if_pos hw]
  have hrun := run_append_owned_none (P := P) (w := w) base t o.type e i size ht hi v n xs hown
  unfold Oper.wp
  simp [execOp, ho, resolve, invoke, builtin, hs, hx, hrun, Result.andThen]
  exact h
theorem hn_at' {W : World} {o : Obj} {B : Nat} (h : W.heap.size = B) : (W.alloc o).heap[B]? = some o := by subst h; exact heap_alloc_new W o
def cmpK (ts : List Tok) (F d : Nat) (es : List Nd) (j : Nat) : PR := match cmpOf (tk ts j) with
  | none => .ok es j
  | some (o, b) => (prs ts F 4 (j + 1) d).bind fun fs m => .ok ((if b = true then fs ++ es else es ++ fs) ++ [opNd o]) m
theorem prs_3k (ts : List Tok) (F i d : Nat) : prs ts (F + 1) 3 i d = (prs ts F 4 i d).bind (cmpK ts F d) := rfl
set_option maxRecDepth 100000 in
set_option maxHeartbeats 2000000 in
theorem p_compare (F P : Nat) (A : Option Addr) (ts : List Tok) (c : Nat) (hv : valT ts = true) (hlen : ts.length ≤ 1000000) (hCh : ChC 123 F 4 3 P A ts c) : LvC 86 (F + 1) 3 P A ts c := by
  intro W i d hS hi hd _ hF
  rw [prs_3k]
  have hP := hS.lt
  have HS := hide hS
  have HCh := hide (show ∀ (X : World) (j : Nat) (Lv : Option Addr), PSt XT X P A ts c j d 0 → W.grownBy X (some P) → j < ts.length → i ≤ j → LevelsAt X P Lv 3 4 → Calls Tryz.prog 50 #[.pointer (some ⟨P, 0, none⟩), .slice Lv 3 3, .func (.func 123) #[.pointer (some ⟨P, 0, none⟩)] #[]] X (fun e2 w2 => ∃ (B2 : Option Addr) (n2 : Nat) (fs : List Nd) (k d2 : Nat) (x2 : Int), e2 = .returned (.slice B2 fs.length n2) ∧ w2.ownsRow W.heap.size 53 6 (.slice B2 fs.length n2) fs.length (ndCells fs) ∧ w2.ownsRow X.heap.size 53 6 (.slice B2 fs.length n2) fs.length (ndCells fs) ∧ PSt XT w2 P A ts c k d2 x2 ∧ W.grownBy w2 (some P) ∧ X.grownBy w2 (some P) ∧ j ≤ k ∧ k < ts.length ∧ fs.length ≤ k - j ∧
      ((x2 = 0 ∧ d2 = d ∧ j < k ∧ prs ts F 4 j d = .ok fs k) ∨ (x2 ≠ 0 ∧ prs ts F 4 j d = .err x2 k ∧ d ≤ d2 ∧ d2 ≤ k))) from fun X j Lv hx hg hj hij hl =>
    (hCh X j d Lv hx hj (by omega) hl (by omega)).mono fun e2 w2 h => by
      obtain ⟨B2, n2, fs, k, d2, x2, h1, h2, h3, h4, h5, h6, h7, h8⟩ := ppost_open (prs_fact hv F 4 j d hj (fun e => absurd e (by omega))) h
      exact ⟨B2, n2, fs, k, d2, x2, h1, own_low h2 hg.size, h2, h3, hg.trans h4, h4, h5, h6, h7, h8⟩)
  clear hS hCh
  have hmf : ∀ (fn : Fn) (first cap : Array Value) (w : World), (Instr.makeFunc fn first cap).run Tryz.prog w = .ok (.func fn first cap) w := fun _ _ _ _ => rfl
  obtain ⟨i0, hi0, hz0, hz1, hz2⟩ := info_parts Tryz.info_nd
  generalize hr : prs ts F 4 i d = r at *
  have Hr := hide hr
  clear hr
  generalize hRR : r.bind (cmpK ts F d) = R at *
  have HR := hide hRR
  clear hRR
  go_enter Tryz.func86, Tryz.ntmps86
  go_wp2_with fail
  refine (tight_any P W hP).mono ?_
  rintro e w1 ⟨⟨Lv, rfl, hL⟩, hb1⟩
  have HL := hide hL
  clear hL
  go_wp2_with fail
  refine (HCh.out w1 i Lv (HS.out.below hb1) (grown_of_below hb1) hi (Nat.le_refl _) HL.out).mono ?_
  rw [Hr.out]
  rintro e2 w2 ⟨B, n, es, j, d', x, rfl, ho2, _, hS2, hg2, _, hij, hjl, hel, hD2⟩
  have HS2 := hide hS2
  have HG2 := hide hg2
  have HO2 := hide ho2
  have HD2 := hide hD2
  obtain ⟨c0, c1, c2, c3⟩ := hS2.cells
  have hP2 := hS2.lt
  have hgs := hg2.size
  clear hS2 hg2 ho2 hD2 HL
  by_cases hx : x = 0
  rotate_left
  · rcases HD2.out with ⟨h, _⟩ | ⟨_, hr, hd4⟩
    · exact absurd h hx
    have hxb : (x != 0) = true := by simpa using hx
    have HE := hide (show R = .err x j from by rw [← HR.out, hr]; rfl)
    clear hr
    go_wp2
    go_ret
    rw [HE.out]
    exact ⟨HG2.out, [], d', ⟨none, 0, rfl, own_nil _ _ _ _⟩, hij, by simp, hd4, HS2.out⟩
  rcases HD2.out with ⟨_, hdd, hij2, hr⟩ | ⟨h, _⟩
  rotate_left
  · exact absurd hx h
  subst hx hdd
  have hG2 : cmpK ts F d' es j = R := by rw [← HR.out, hr]; rfl
  clear hr HD2 HR
  unfold cmpK at hG2
  rw [cmpOf_T] at hG2
  obtain ⟨g, off, rfl, hgP, t0, t1, t2, t3⟩ := HS2.out.tok.at_ hjl
  have hg : g < w2.heap.size := Nat.lt_trans hgP hP2
  have htl := tk_short hv hjl
  have hnx := fun (h : (tk ts j).kind ≠ 0) => tk_next hv hjl h
  generalize tk ts j = t at *
  obtain ⟨tk0, tk1, tk2, tk3⟩ := t
  simp only at t0 t1 t2 t3 htl hnx hG2
  have HG := hide hG2
  clear hG2
  have HLk0 := fun (X : World) (Bc nc : Nat) (h : X.ownsMap Tryz.prog 9 cmpR Bc nc cmpD) => cmp_look h tk1 (by unfold maxLen; omega)
  obtain ⟨ov, bv, hv2, HOv⟩ : ∃ (ov : Int) (bv hv2 : Bool), Hid (((cmpT tk1).getD (0, false)).1 = ov ∧ ((cmpT tk1).getD (0, false)).2 = bv ∧ (cmpT tk1).isSome = hv2) := ⟨_, _, _, hide ⟨rfl, rfl, rfl⟩⟩
  rw [HOv.out.1, HOv.out.2.1, HOv.out.2.2] at HLk0
  have HLk := hide HLk0
  clear HLk0
  go_wp2
  go_region
  go_upto_region 5 with fail
  go_cut [5, 6] from 28 to 34 (fun s5 s6 wx => ∃ cB : Nat, s5 = .pointer (some ⟨cB, 0, none⟩) ∧ s6 = .bool hv2 ∧ Hid (Below w2.heap.size w2 wx) ∧ w2.heap.size < cB ∧ cB < wx.heap.size ∧ wx.cell? ⟨cB, 0, none⟩ = some (.int .i64 ov) ∧ wx.cell? ⟨cB, 1, none⟩ = some (.bool bv) ∧ wx.cell? ⟨w2.heap.size, 0, none⟩ = some (.int .i64 tk0))
  case first =>
    first | (go_region_with (go_at_call 124; refine (comparisons_any _).mono ?_; rintro e5 w5 ⟨⟨Bc, nc, rfl, hown⟩, hb5⟩; have hbw5 : Below w2.heap.size w2 w5 := bel2 hb5 (by (repeat (first | exact Below.refl _ _ | assumption | refine Below.drew ?_ | refine below_drewN ?_ _ | refine Below.alloc ?_ (by first | omega | simp <;> omega) _ | refine Below.setCell ?_ (by first | omega | simp <;> omega) _))); have hl0 := HLk.out w5 Bc nc hown; have hl2 := fun (o : Obj) => HLk.out (w5.alloc o) Bc nc (hown.alloc o); have m0 : w5.cell? ⟨w2.heap.size, 0, none⟩ = some (.int .i64 tk0) := (hb5.cell (p := ⟨w2.heap.size, 0, none⟩) (by first | (simp; done) | (simp; omega))).trans (by go_simp); have m1 : w5.cell? ⟨w2.heap.size, 1, none⟩ = some (str tk1) := (hb5.cell (p := ⟨w2.heap.size, 1, none⟩) (by first | (simp; done) | (simp; omega))).trans (by go_simp); have hz5 : w2.heap.size < w5.heap.size := (by have := hb5.size; simp at this; omega); (first | (have k0 : w5.cell? ⟨w2.heap.size + 1, 0, none⟩ = some (.int .i64 0) := (hb5.cell (p := ⟨w2.heap.size + 1, 0, none⟩) (by first | (simp; done) | (simp; omega))).trans (by go_simp); have k1 : w5.cell? ⟨w2.heap.size + 1, 1, none⟩ = some (.bool false) := (hb5.cell (p := ⟨w2.heap.size + 1, 1, none⟩) (by first | (simp; done) | (simp; omega))).trans (by go_simp); have kf0 : w5.frozen? ⟨w2.heap.size + 1, 0, none⟩ = false := (World.frozen?_of_block (hb5.block (w2.heap.size + 1) (by first | (simp; done) | (simp; omega)))).trans (by go_simp); have kf1 : w5.frozen? ⟨w2.heap.size + 1, 1, none⟩ = false := (World.frozen?_of_block (hb5.block (w2.heap.size + 1) (by first | (simp; done) | (simp; omega)))).trans (by go_simp); have hz52 : w2.heap.size + 1 < w5.heap.size := (by have := hb5.size; simp at this; omega)) | skip))) | fail
    all_goals
      go_wp2_with fail
      go_meet
      refine ⟨_, rfl, rfl, hide (by (repeat (first | exact Below.refl _ _ | assumption | refine Below.drew ?_ | refine below_drewN ?_ _ | refine Below.alloc ?_ (by first | omega | simp <;> omega) _ | refine Below.setCell ?_ (by first | omega | simp <;> omega) _))), ?_, ?_, ?_, ?_, ?_⟩
      all_goals first | (simp; done) | (simp; omega) | go_simp
  case rest =>
    obtain ⟨cB, rfl, rfl, HBc, hcB1, hcB2, q0, q1, m0⟩ := hcut
    have HS5 := hide (HS2.out.below HBc.out)
    have HG5 := hide (gr_bel HG2.out HBc.out)
    have HO5 := hide (own_below HO2.out HBc.out)
    have hz5 := HBc.out.size
    clear c0 c1 c2 c3 t0 t1 t2 t3 HLk
    have hG2 := HG.out
    clear HG
    have key : (∃ (h5 : tk0 = 5), hv2 = true ∧ cmpT tk1 = some (ov, bv)) ∨ (R = .ok es j ∧ ((tk0 != 5) = true ∨ ((tk0 != 5) = false ∧ hv2 = false))) := by
      obtain ⟨v1, v2, v3⟩ := HOv.out
      by_cases h5 : tk0 = 5
      · rw [if_pos h5] at hG2
        cases hc : cmpT tk1 with
        | none =>
          rw [hc] at v3 hG2
          exact .inr ⟨hG2.symm, .inr ⟨by simpa using h5, v3.symm⟩⟩
        | some p =>
          rw [hc] at v1 v2 v3
          refine .inl ⟨h5, v3.symm, ?_⟩
          rw [← v1, ← v2]; rfl
      · rw [if_neg h5] at hG2
        exact .inr ⟨hG2.symm, .inl (by simpa using h5)⟩
    rcases key with ⟨h5, hvt, hcm⟩ | ⟨hE, hkk⟩
    rotate_left
    · have HE := hide hE
      clear hE hG2
      rcases hkk with hk | ⟨hk, rfl⟩
      all_goals
        go_wp2
        go_ret
        rw [HE.out]
        exact ⟨HG5.out, ⟨B, n, rfl, HO5.out⟩, HS5.out⟩
    subst h5 hvt
    rw [if_pos rfl, hcm] at hG2
    simp only at hG2
    have HE := hide hG2
    have hj1 := hnx (by decide)
    clear hG2 hcm HOv hnx
    obtain ⟨c0, c1, c2, c3⟩ := HS5.out.cells
    have hP5 := HS5.out.lt
    have hfr := HS5.out.free
    have HS6 := hide (HS5.out.setAt (j + 1))
    have HG6 := hide (gr_set HG5.out 1 (.int .i64 ((j + 1 : Nat) : Int)))
    have HO6 := hide (own_fr HO5.out (gr_set (World.grownBy.refl wc (some P)) 1 (.int .i64 ((j + 1 : Nat) : Int))) hP)
    have HK6 := hide (show wc.grownBy (wc.setCell ⟨P, 1, none⟩ (.int .i64 ((j + 1 : Nat) : Int))) (some P) from gr_set (World.grownBy.refl wc (some P)) 1 _)
    go_wp2_with fail
    refine (tight_any P _ (by simp; omega)).mono ?_
    rintro e6 w6 ⟨⟨Lv2, rfl, hL2⟩, hb6⟩
    have HL2 := hide hL2
    have HS7 := hide (HS6.out.below hb6)
    have HG7 := hide (gr_bel HG6.out hb6)
    have HO7 := hide (own_below HO6.out hb6)
    have HK7 := hide (gr_bel HK6.out hb6)
    clear hL2 hb6 c0 c1 c2 c3 hfr HS6 HG6 HO6 HK6
    go_wp2_with fail
    refine (HCh.out w6 (j + 1) Lv2 HS7.out HG7.out hj1 (by omega) HL2.out).mono ?_
    rintro e8 w8 ⟨B8, n8, fs, k, d8, x8, rfl, ho8, ho8x, hS8, hg8, hgX, hjk, hkl, hfl, hD8⟩
    have HO9 := hide (own_fr HO7.out hgX hP)
    have hK8 := HK7.out.trans hgX
    have HS8 := hide hS8
    have HG8 := hide hg8
    have HO8 := hide ho8
    have HO8x := hide ho8x
    have hcB6 : cB < w6.heap.size := Nat.lt_of_lt_of_le hcB2 HK7.out.size
    have HD8 := hide hD8
    have hq0 : w8.cell? ⟨cB, 0, none⟩ = some (.int .i64 ov) := hK8.cell q0 (by intro e; injection e with e; simp at e; omega)
    have hq1 : w8.cell? ⟨cB, 1, none⟩ = some (.bool bv) := hK8.cell q1 (by intro e; injection e with e; simp at e; omega)
    have hcB3 : cB < w8.heap.size := Nat.lt_of_lt_of_le hcB2 hK8.size
    have hW8 := hg8.size
    clear hK8 ho8 ho8x hS8 hg8 hgX hD8 q0 q1 m0 HL2 HK7
    cases bv with
    | false =>
      go_upto_region 12 with fail
      rcases own_addr HO8.out with ⟨hB0, hl0, hn0⟩ | ⟨gf, hB0⟩
      · subst hB0 hn0
        obtain rfl : fs = [] := List.eq_nil_of_length_eq_zero hl0
        clear hl0
        simp only [List.length_nil] at *
        first | (go_region_law (first
          | (refine step_none (by rfl) _ _ _ (by rfl) _ 53 i0 6 Tryz.underlying30 hi0 _ _ _ (by rfl) (own_below HO9.out (by (repeat (first | exact Below.refl _ _ | assumption | refine Below.drew ?_ | refine below_drewN ?_ _ | refine Below.alloc ?_ (by first | omega | simp <;> omega) _ | refine Below.setCell ?_ (by first | omega | simp <;> omega) _)))) (by rfl) ?_)
          | (refine step_own (by rfl) _ _ _ (by rfl) W.heap.size 53 i0 _ 6 64 Tryz.underlying30 hi0 hz0 hz1 hz2 rfl (by omega) _ _ _ (by rfl) (own_below HO9.out (by (repeat (first | exact Below.refl _ _ | assumption | refine Below.drew ?_ | refine below_drewN ?_ _ | refine Below.alloc ?_ (by first | omega | simp <;> omega) _ | refine Below.setCell ?_ (by first | omega | simp <;> omega) _)))) ⟨_, 0, none⟩ 1 1 [.int .i64 ov, .int .i64 0, .int .i64 0, str [], str [], .int .i64 0] (by rfl) rfl (by exact cells_6 (hn_at' (by simp))) (by simp [Value.oneCell']) (by unfold maxLen; omega) (by omega) (by simp; omega) ?_; intro v4 w4 o4 g4; obtain ⟨B4, n4, rfl⟩ := own_form o4; have HS4 := hide (PSt.gr (HS8.out.below (by (repeat (first | exact Below.refl _ _ | assumption | refine Below.drew ?_ | refine below_drewN ?_ _ | refine Below.alloc ?_ (by first | omega | simp <;> omega) _ | refine Below.setCell ?_ (by first | omega | simp <;> omega) _)))) g4 (fun j hj => by have := (HO9.out.lt j hj).1; omega)); have HG4 := hide (World.grownBy.andThen (gr_bel HG8.out (by (repeat (first | exact Below.refl _ _ | assumption | refine Below.drew ?_ | refine below_drewN ?_ _ | refine Below.alloc ?_ (by first | omega | simp <;> omega) _ | refine Below.setCell ?_ (by first | omega | simp <;> omega) _)))) g4 (fun j hj => .inl (HO9.out.lt j hj).1)); have HO4 := hide (own_nd1 (nd := opNd ov) o4); clear o4 g4))) | fail
        all_goals
          go_wp2
          refine bodyPost_ret (v := .slice B4 (es.length + 1) n4) (by simp [results, Tryz.results86, go_sem]) rfl ?_
          rcases HD8.out with ⟨e1, e2, e3, e4⟩ | ⟨e1, e4, e5⟩
          · have hE := HE.out
            rw [e4] at hE
            simp only [PR.bind, Bool.false_eq_true, ↓reduceIte, List.append_nil, List.nil_append] at hE
            rw [← hE]
            subst e1 e2
            exact ⟨HG4.out, ⟨B4, n4, by first | rfl | (simp; done) | (simp; omega), HO4.out⟩, HS4.out⟩
          · have hE := HE.out
            rw [e4] at hE
            simp only [PR.bind, Bool.false_eq_true, ↓reduceIte, List.append_nil, List.nil_append] at hE
            rw [← hE]
            exact ⟨HG4.out, es ++ [opNd ov], d8, ⟨B4, n4, by first | rfl | (simp; done) | (simp; omega), HO4.out⟩, by omega, by simp only [List.length_append, List.length_singleton, List.length_nil]; omega, e5, HS4.out⟩
      · subst hB0
        have HCf := hide (show ∀ X, Below w8.heap.size w8 X → ∀ j u, (ndCells fs)[j]? = some u → X.cell? ((⟨gf, 0, none⟩ : Addr).add j) = some u from fun X hX => (orow_cells (own_below HO8.out hX)).2.2)
        first | (go_region_law (first
          | (refine step_own (by rfl) _ _ _ (by rfl) W.heap.size 53 i0 _ 6 64 Tryz.underlying30 hi0 hz0 hz1 hz2 rfl (by omega) _ _ _ (by rfl) (own_below HO9.out (by (repeat (first | exact Below.refl _ _ | assumption | refine Below.drew ?_ | refine below_drewN ?_ _ | refine Below.alloc ?_ (by first | omega | simp <;> omega) _ | refine Below.setCell ?_ (by first | omega | simp <;> omega) _)))) ⟨gf, 0, none⟩ fs.length n8 (ndCells fs) (by rfl) (ndCells_len _) (HCf.out _ (by (repeat (first | exact Below.refl _ _ | assumption | refine Below.drew ?_ | refine below_drewN ?_ _ | refine Below.alloc ?_ (by first | omega | simp <;> omega) _ | refine Below.setCell ?_ (by first | omega | simp <;> omega) _)))) (nd_one _) (by unfold maxLen; omega) (by omega) (by first | omega | (simp; omega)) ?_; intro v3 w3 o3 g3; obtain ⟨B3, n3, rfl⟩ := own_form o3; have HS3 := hide (PSt.gr (HS8.out.below (by (repeat (first | exact Below.refl _ _ | assumption | refine Below.drew ?_ | refine below_drewN ?_ _ | refine Below.alloc ?_ (by first | omega | simp <;> omega) _ | refine Below.setCell ?_ (by first | omega | simp <;> omega) _)))) g3 (fun j hj => by have := (HO9.out.lt j hj).1; omega)); have HG3 := hide (World.grownBy.andThen (gr_bel HG8.out (by (repeat (first | exact Below.refl _ _ | assumption | refine Below.drew ?_ | refine below_drewN ?_ _ | refine Below.alloc ?_ (by first | omega | simp <;> omega) _ | refine Below.setCell ?_ (by first | omega | simp <;> omega) _)))) g3 (fun j hj => .inl (HO9.out.lt j hj).1)); have HO3 := hide o3; have hq3 : w3.cell? ⟨cB, 0, none⟩ = some (.int .i64 ov) := g3.cell (by first | exact hq0 | go_simp) (by intro e; have := (HO2.out.lt cB e.symm).2; omega); have hz3 := g3.size; (first | (have hS3 : w3.heap[w8.heap.size]? = some (.cells #[.int .i64 ov, .int .i64 0, .int .i64 0, str [], str [], .int .i64 0] 53) := (g3.block w8.heap.size (by first | (simp; done) | (simp; omega)) (by intro e; have := (HO9.out.lt w8.heap.size e.symm).2; omega)).trans (by exact hn_at' (by simp)); have hz33 : w8.heap.size < w3.heap.size := Nat.lt_of_lt_of_le (by first | (simp; done) | (simp; omega)) hz3) | skip); clear o3 g3)
          | (refine step_own (by rfl) _ _ _ (by rfl) W.heap.size 53 i0 _ 6 64 Tryz.underlying30 hi0 hz0 hz1 hz2 rfl (by omega) _ _ _ (by rfl) (own_below HO3.out (by (repeat (first | exact Below.refl _ _ | assumption | refine Below.drew ?_ | refine below_drewN ?_ _ | refine Below.alloc ?_ (by first | omega | simp <;> omega) _ | refine Below.setCell ?_ (by first | omega | simp <;> omega) _)))) ⟨_, 0, none⟩ 1 1 [.int .i64 ov, .int .i64 0, .int .i64 0, str [], str [], .int .i64 0] (by rfl) rfl (by first | exact cells_6 (hn_at' (by simp)) | exact cells_6 hS3) (by simp [Value.oneCell']) (by unfold maxLen; omega) (by omega) (by first | omega | (simp; omega) | (simp at hz3; simp; omega)) ?_; intro v4 w4 o4 g4; obtain ⟨B4, n4, rfl⟩ := own_form o4; have HS4 := hide (PSt.gr (HS3.out.below (by (repeat (first | exact Below.refl _ _ | assumption | refine Below.drew ?_ | refine below_drewN ?_ _ | refine Below.alloc ?_ (by first | omega | simp <;> omega) _ | refine Below.setCell ?_ (by first | omega | simp <;> omega) _)))) g4 (fun j hj => by have := (HO3.out.lt j hj).1; omega)); have HG4 := hide (World.grownBy.andThen (gr_bel HG3.out (by (repeat (first | exact Below.refl _ _ | assumption | refine Below.drew ?_ | refine below_drewN ?_ _ | refine Below.alloc ?_ (by first | omega | simp <;> omega) _ | refine Below.setCell ?_ (by first | omega | simp <;> omega) _)))) g4 (fun j hj => .inl (HO3.out.lt j hj).1)); have HO4 := hide (own_nd (o := ov) o4); clear o4 g4))) | fail
        all_goals
          go_wp2
          refine bodyPost_ret (v := .slice B4 (es.length + fs.length + 1) n4) (by simp [results, Tryz.results86, go_sem]) rfl ?_
          rcases HD8.out with ⟨e1, e2, e3, e4⟩ | ⟨e1, e4, e5⟩
          · have hE := HE.out
            rw [e4] at hE
            simp only [PR.bind, Bool.false_eq_true, ↓reduceIte, List.append_nil, List.nil_append] at hE
            rw [← hE]
            subst e1 e2
            exact ⟨HG4.out, ⟨B4, n4, by first | rfl | (simp; done) | (simp; omega), HO4.out⟩, HS4.out⟩
          · have hE := HE.out
            rw [e4] at hE
            simp only [PR.bind, Bool.false_eq_true, ↓reduceIte, List.append_nil, List.nil_append] at hE
            rw [← hE]
            exact ⟨HG4.out, (es ++ fs) ++ [opNd ov], d8, ⟨B4, n4, by first | rfl | (simp; done) | (simp; omega), HO4.out⟩, by omega, by simp only [List.length_append, List.length_singleton, List.length_nil]; omega, e5, HS4.out⟩
    | true =>
      go_upto_region 12 with fail
      rcases own_addr HO9.out with ⟨hB0, hl0, hn0⟩ | ⟨gf, hB0⟩
      · subst hB0 hn0
        obtain rfl : es = [] := List.eq_nil_of_length_eq_zero hl0
        clear hl0
        simp only [List.length_nil] at *
        first | (go_region_law (first
          | (refine step_none (by rfl) _ _ _ (by rfl) _ 53 i0 6 Tryz.underlying30 hi0 _ _ _ (by rfl) (own_below HO8.out (by (repeat (first | exact Below.refl _ _ | assumption | refine Below.drew ?_ | refine below_drewN ?_ _ | refine Below.alloc ?_ (by first | omega | simp <;> omega) _ | refine Below.setCell ?_ (by first | omega | simp <;> omega) _)))) (by rfl) ?_)
          | (refine step_own (by rfl) _ _ _ (by rfl) W.heap.size 53 i0 _ 6 64 Tryz.underlying30 hi0 hz0 hz1 hz2 rfl (by omega) _ _ _ (by rfl) (own_below HO8.out (by (repeat (first | exact Below.refl _ _ | assumption | refine Below.drew ?_ | refine below_drewN ?_ _ | refine Below.alloc ?_ (by first | omega | simp <;> omega) _ | refine Below.setCell ?_ (by first | omega | simp <;> omega) _)))) ⟨_, 0, none⟩ 1 1 [.int .i64 ov, .int .i64 0, .int .i64 0, str [], str [], .int .i64 0] (by rfl) rfl (by exact cells_6 (hn_at' (by simp))) (by simp [Value.oneCell']) (by unfold maxLen; omega) (by omega) (by simp; omega) ?_; intro v4 w4 o4 g4; obtain ⟨B4, n4, rfl⟩ := own_form o4; have HS4 := hide (PSt.gr (HS8.out.below (by (repeat (first | exact Below.refl _ _ | assumption | refine Below.drew ?_ | refine below_drewN ?_ _ | refine Below.alloc ?_ (by first | omega | simp <;> omega) _ | refine Below.setCell ?_ (by first | omega | simp <;> omega) _)))) g4 (fun j hj => by have := (HO8.out.lt j hj).1; omega)); have HG4 := hide (World.grownBy.andThen (gr_bel HG8.out (by (repeat (first | exact Below.refl _ _ | assumption | refine Below.drew ?_ | refine below_drewN ?_ _ | refine Below.alloc ?_ (by first | omega | simp <;> omega) _ | refine Below.setCell ?_ (by first | omega | simp <;> omega) _)))) g4 (fun j hj => .inl (HO8.out.lt j hj).1)); have HO4 := hide (own_nd1 (nd := opNd ov) o4); clear o4 g4))) | fail
        all_goals
          go_wp2
          refine bodyPost_ret (v := .slice B4 (fs.length + 1) n4) (by simp [results, Tryz.results86, go_sem]) rfl ?_
          rcases HD8.out with ⟨e1, e2, e3, e4⟩ | ⟨e1, e4, e5⟩
          · have hE := HE.out
            rw [e4] at hE
            simp only [PR.bind, Bool.false_eq_true, ↓reduceIte, List.append_nil, List.nil_append] at hE
            rw [← hE]
            subst e1 e2
            exact ⟨HG4.out, ⟨B4, n4, by first | rfl | (simp; done) | (simp; omega), HO4.out⟩, HS4.out⟩
          · have hE := HE.out
            rw [e4] at hE
            simp only [PR.bind, Bool.false_eq_true, ↓reduceIte, List.append_nil, List.nil_append] at hE
            rw [← hE]
            exact ⟨HG4.out, fs ++ [opNd ov], d8, ⟨B4, n4, by first | rfl | (simp; done) | (simp; omega), HO4.out⟩, by omega, by simp only [List.length_append, List.length_singleton, List.length_nil]; omega, e5, HS4.out⟩
      · subst hB0
        have HCf := hide (show ∀ X, Below w8.heap.size w8 X → ∀ j u, (ndCells es)[j]? = some u → X.cell? ((⟨gf, 0, none⟩ : Addr).add j) = some u from fun X hX => (orow_cells (own_below HO9.out hX)).2.2)
        first | (go_region_law (first
          | (refine step_own (by rfl) _ _ _ (by rfl) W.heap.size 53 i0 _ 6 64 Tryz.underlying30 hi0 hz0 hz1 hz2 rfl (by omega) _ _ _ (by rfl) (own_below HO8.out (by (repeat (first | exact Below.refl _ _ | assumption | refine Below.drew ?_ | refine below_drewN ?_ _ | refine Below.alloc ?_ (by first | omega | simp <;> omega) _ | refine Below.setCell ?_ (by first | omega | simp <;> omega) _)))) ⟨gf, 0, none⟩ es.length n (ndCells es) (by rfl) (ndCells_len _) (HCf.out _ (by (repeat (first | exact Below.refl _ _ | assumption | refine Below.drew ?_ | refine below_drewN ?_ _ | refine Below.alloc ?_ (by first | omega | simp <;> omega) _ | refine Below.setCell ?_ (by first | omega | simp <;> omega) _)))) (nd_one _) (by unfold maxLen; omega) (by omega) (by first | omega | (simp; omega)) ?_; intro v3 w3 o3 g3; obtain ⟨B3, n3, rfl⟩ := own_form o3; have HS3 := hide (PSt.gr (HS8.out.below (by (repeat (first | exact Below.refl _ _ | assumption | refine Below.drew ?_ | refine below_drewN ?_ _ | refine Below.alloc ?_ (by first | omega | simp <;> omega) _ | refine Below.setCell ?_ (by first | omega | simp <;> omega) _)))) g3 (fun j hj => by have := (HO8.out.lt j hj).1; omega)); have HG3 := hide (World.grownBy.andThen (gr_bel HG8.out (by (repeat (first | exact Below.refl _ _ | assumption | refine Below.drew ?_ | refine below_drewN ?_ _ | refine Below.alloc ?_ (by first | omega | simp <;> omega) _ | refine Below.setCell ?_ (by first | omega | simp <;> omega) _)))) g3 (fun j hj => .inl (HO8.out.lt j hj).1)); have HO3 := hide o3; have hq3 : w3.cell? ⟨cB, 0, none⟩ = some (.int .i64 ov) := g3.cell (by first | exact hq0 | go_simp) (by intro e; have := (HO8x.out.lt cB e.symm).1; omega); have hz3 := g3.size; (first | (have hS3 : w3.heap[w8.heap.size]? = some (.cells #[.int .i64 ov, .int .i64 0, .int .i64 0, str [], str [], .int .i64 0] 53) := (g3.block w8.heap.size (by first | (simp; done) | (simp; omega)) (by intro e; have := (HO8.out.lt w8.heap.size e.symm).2; omega)).trans (by exact hn_at' (by simp)); have hz33 : w8.heap.size < w3.heap.size := Nat.lt_of_lt_of_le (by first | (simp; done) | (simp; omega)) hz3) | skip); clear o3 g3)
          | (refine step_own (by rfl) _ _ _ (by rfl) W.heap.size 53 i0 _ 6 64 Tryz.underlying30 hi0 hz0 hz1 hz2 rfl (by omega) _ _ _ (by rfl) (own_below HO3.out (by (repeat (first | exact Below.refl _ _ | assumption | refine Below.drew ?_ | refine below_drewN ?_ _ | refine Below.alloc ?_ (by first | omega | simp <;> omega) _ | refine Below.setCell ?_ (by first | omega | simp <;> omega) _)))) ⟨_, 0, none⟩ 1 1 [.int .i64 ov, .int .i64 0, .int .i64 0, str [], str [], .int .i64 0] (by rfl) rfl (by first | exact cells_6 (hn_at' (by simp)) | exact cells_6 hS3) (by simp [Value.oneCell']) (by unfold maxLen; omega) (by omega) (by first | omega | (simp; omega) | (simp at hz3; simp; omega)) ?_; intro v4 w4 o4 g4; obtain ⟨B4, n4, rfl⟩ := own_form o4; have HS4 := hide (PSt.gr (HS3.out.below (by (repeat (first | exact Below.refl _ _ | assumption | refine Below.drew ?_ | refine below_drewN ?_ _ | refine Below.alloc ?_ (by first | omega | simp <;> omega) _ | refine Below.setCell ?_ (by first | omega | simp <;> omega) _)))) g4 (fun j hj => by have := (HO3.out.lt j hj).1; omega)); have HG4 := hide (World.grownBy.andThen (gr_bel HG3.out (by (repeat (first | exact Below.refl _ _ | assumption | refine Below.drew ?_ | refine below_drewN ?_ _ | refine Below.alloc ?_ (by first | omega | simp <;> omega) _ | refine Below.setCell ?_ (by first | omega | simp <;> omega) _)))) g4 (fun j hj => .inl (HO3.out.lt j hj).1)); have HO4 := hide (own_nd (o := ov) o4); clear o4 g4))) | fail
        all_goals
          go_wp2
          refine bodyPost_ret (v := .slice B4 (fs.length + es.length + 1) n4) (by simp [results, Tryz.results86, go_sem]) rfl ?_
          rcases HD8.out with ⟨e1, e2, e3, e4⟩ | ⟨e1, e4, e5⟩
          · have hE := HE.out
            rw [e4] at hE
            simp only [PR.bind, Bool.false_eq_true, ↓reduceIte, List.append_nil, List.nil_append] at hE
            rw [← hE]
            subst e1 e2
            exact ⟨HG4.out, ⟨B4, n4, by first | rfl | (simp; done) | (simp; omega), HO4.out⟩, HS4.out⟩
          · have hE := HE.out
            rw [e4] at hE
            simp only [PR.bind, Bool.false_eq_true, ↓reduceIte, List.append_nil, List.nil_append] at hE
            rw [← hE]
            exact ⟨HG4.out, (fs ++ es) ++ [opNd ov], d8, ⟨B4, n4, by first | rfl | (simp; done) | (simp; omega), HO4.out⟩, by omega, by simp only [List.length_append, List.length_singleton, List.length_nil]; omega, e5, HS4.out⟩
end Go.Proofs.YtlfedcbihbigoaaGreatDoor
