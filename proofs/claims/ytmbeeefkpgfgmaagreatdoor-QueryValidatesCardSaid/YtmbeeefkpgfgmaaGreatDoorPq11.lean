/- The type of an expression, told (ref9.Type, base.Unknown). -/
import Derived.Test.YtmbeeefkpgfgmaaGreatDoorPq08
import Derived.Test.YtmbeeefkpgfgmaaGreatDoorPq09
import Derived.Test.YtmbeeefkpgfgmaaGreatDoorPq10
import Derived.Test.YtmbeeefkpgfgmaaGreatDoorPq07
set_option linter.unusedVariables false
set_option linter.unusedSimpArgs false
namespace Go.Proofs.YtmbeeefkpgfgmaaGreatDoor
open Go.RowKit
def NodeDet : Prop := ∀ (op k m a : Int) (x nm : ByteArray) (X C Z : Option Addr) (cs : List Col) (zs : List Zon) (xs : List Kn) (xc cc zc : Nat) (w : World), (xs.length : Int) = arityN op a → KnvAt w X xs → ColsAt w C cs → cs.length ≤ 1000000 → ZnsAt w Z zs → zs.length ≤ 1000000 →
    Calls Tryz.prog 260 #[ndV op k m x nm a, .slice X xs.length xc, .slice C cs.length cc, .slice Z zs.length zc] w fun e w' => e = ndR (nodeS cs zs op k (bs nm) xs) ∧ Below w.heap.size w w'
theorem node_det : NodeDet := by
  intro op k m a x nm X C Z cs zs xs xc cc zc w ha hX hC hl hZ hz
  by_cases h0 : op = 0
  · subst h0; exact node_const_s cs zs xs k m a x nm X C Z xs.length xc cs.length cc zs.length zc w
  by_cases h1 : op = 1
  · subst h1; exact node_col_s zs xs k m a x nm X C Z cs xs.length xc cc zs.length zc w hC hl
  by_cases h21 : op = 21
  · subst h21; exact node_call_s cs zs xs k m a x nm X C Z xs.length xc cs.length cc zs.length zc w
  by_cases h17 : op = 17
  · subst h17
    have hn : xs.length = 3 := by
      have : arityN 17 a = 3 := rfl
      omega
    match xs, hn, hX with
    | [(k0, b0), (k1, b1), (k2, b2)], _, hX =>
      rcases hX with e | ⟨g, off, rfl, hg, hc⟩
      · cases e
      obtain ⟨c0, c1⟩ := hc 0 (by simp)
      simp only [Nat.zero_mul, Nat.add_zero, List.getElem_cons_zero] at c0 c1
      obtain ⟨c2, c3⟩ := hc 1 (by simp)
      simp only [Nat.one_mul, List.getElem_cons_zero, List.getElem_cons_succ] at c2 c3
      obtain ⟨c4, c5⟩ := hc 2 (by simp)
      simp only [show 2 * 2 = 4 from rfl, List.getElem_cons_zero, List.getElem_cons_succ] at c4 c5
      cases hcm : (comS (k1, b1) (k2, b2)).2 <;> cases b1
      · exact if_ff_s cs zs k m a x nm g off C Z xc cs.length cc zs.length zc w k0 k1 k2 b0 b2 hg hcm c0 c1 c2 c3 c4 c5
      · exact if_ft_s cs zs k m a x nm g off C Z xc cs.length cc zs.length zc w k0 k1 k2 b0 b2 hg hcm c0 c1 c2 c3 c4 c5
      · exact if_tf_s cs zs k m a x nm g off C Z xc cs.length cc zs.length zc w k0 k1 k2 b0 b2 hg hcm c0 c1 c2 c3 c4 c5
      · exact if_tt_s cs zs k m a x nm g off C Z xc cs.length cc zs.length zc w k0 k1 k2 b0 b2 hg hcm c0 c1 c2 c3 c4 c5
  have e0 : (op == 0) = false := by simpa using h0
  have e1 : (op == 1) = false := by simpa using h1
  have e21 : (op == 21) = false := by simpa using h21
  have e17 : (op == 17) = false := by simpa using h17
  unfold arityN at ha
  rw [if_neg (by omega)] at ha
  by_cases h : op = 2 ∨ op = 3 ∨ op = 16 ∨ op = 19 ∨ op = 20
  · rw [if_pos h] at ha
    have hn : xs.length = 1 := by omega
    match xs, hn, hX with
    | [x0], _, hX =>
      by_cases h20 : op = 20
      · subst h20; exact node_day_s cs zs x0 k m a x nm X C Z xc cs.length cc zc w hX hZ hz
      · exact node_un_s cs zs x0 op k m a x nm X C Z xc cs.length cc zs.length zc w hX e0 e1 e21 e17 (by simpa using h20)
  · rw [if_neg h, if_neg h17, if_neg h21] at ha
    split at ha
    · have hn : xs.length = 2 := by omega
      match xs, hn, hX with
      | [x0, y0], _, hX => exact node_bin_s cs zs x0 y0 op k m a x nm X C Z xc cs.length cc zs.length zc w hX e0 e1 e21 e17 (by simp; omega)
    · omega
def knC (ks : List Kn) : List Value := ks.flatMap fun x => [.int .i64 x.1, .bool x.2]
theorem knC_len : ∀ ks : List Kn, (knC ks).length = ks.length * 2
  | [] => rfl
  | x :: ks => by
    show ([Value.int .i64 x.1, Value.bool x.2] ++ knC ks).length = _
    rw [List.length_append, knC_len ks]; simp; omega
theorem knC_at : ∀ (ks : List Kn) (i : Nat) (h : i < ks.length), (knC ks)[i * 2]? = some (.int .i64 ks[i].1) ∧ (knC ks)[i * 2 + 1]? = some (.bool ks[i].2)
  | [], i, h => absurd h (Nat.not_lt_zero _)
  | x :: ks, 0, _ => ⟨rfl, rfl⟩
  | x :: ks, i + 1, h => by
    have e : knC (x :: ks) = Value.int .i64 x.1 :: Value.bool x.2 :: knC ks := rfl
    have ih := knC_at ks i (by simpa using h)
    rw [e, show (i + 1) * 2 = i * 2 + 1 + 1 by omega]
    simpa using ih
theorem knC_take : ∀ (ks : List Kn) (r : Nat), (knC ks).take (r * 2) = knC (ks.take r)
  | [], r => by simp [knC]
  | x :: ks, 0 => by simp [knC]
  | x :: ks, r + 1 => by
    have e : knC (x :: ks) = Value.int .i64 x.1 :: Value.bool x.2 :: knC ks := rfl
    have ih := knC_take ks r
    rw [e, show (r + 1) * 2 = r * 2 + 1 + 1 by omega, List.take_succ_cons, List.take_succ_cons, ih]
    rfl
theorem knC_push (ks : List Kn) (x : Kn) : knC (ks ++ [x]) = knC ks ++ [.int .i64 x.1, .bool x.2] := by simp [knC]
def runT (cs : List Col) (zs : List Zon) (es : List Nd) : Nat → Except Int (List Kn)
  | 0 => .ok []
  | k + 1 => match runT cs zs es k with
    | .error x => .error x
    | .ok st => match es[k]? with
      | none => .ok st
      | some n => if (nodeS cs zs n.op n.val.kind n.name (st.drop (st.length - n.ar.toNat))).2 = 0 then .ok (st.take (st.length - n.ar.toNat) ++ [(nodeS cs zs n.op n.val.kind n.name (st.drop (st.length - n.ar.toNat))).1]) else .error (nodeS cs zs n.op n.val.kind n.name (st.drop (st.length - n.ar.toNat))).2
theorem runT_stay {cs : List Col} {zs : List Zon} {es : List Nd} {k : Nat} {x : Int} (h : runT cs zs es k = .error x) : ∀ m, runT cs zs es (k + m) = .error x
  | 0 => h
  | m + 1 => by
    show runT cs zs es ((k + m) + 1) = _
    unfold runT
    rw [runT_stay h m]
def topK (r : Except Int (List Kn)) : Kn × Int := match r with
  | .error x => ((0, false), x)
  | .ok st => (st.headD (0, false), 0)
def typS (cs : List Col) (zs : List Zon) (es : List Nd) : Kn × Int :=
  if validE es ≠ 0 then ((0, false), validE es) else if colsV cs ≠ 0 then ((0, false), colsV cs) else if firstE (zerE zs) zs.length ≠ 0 then ((0, false), firstE (zerE zs) zs.length) else topK (runT cs zs es es.length)
section
variable {cs : List Col} {zs : List Zon} {es : List Nd}
theorem typS_1 {v : Int} (h : validE es = v) (h2 : v ≠ 0) : typS cs zs es = ((0, false), v) := by
  subst h; unfold typS; rw [if_pos h2]
theorem typS_2 {v : Int} (h1 : validE es = 0) (h : colsV cs = v) (h2 : v ≠ 0) : typS cs zs es = ((0, false), v) := by
  subst h; unfold typS; rw [if_neg (by simpa using h1), if_pos h2]
theorem typS_3 {k : Nat} {v : Int} (h1 : validE es = 0) (h3 : colsV cs = 0) (h4 : k < zs.length) (h5 : ∀ j, j < k → zerE zs j = 0) (h : zerE zs k = v) (h2 : v ≠ 0) : typS cs zs es = ((0, false), v) := by
  have e : firstE (zerE zs) zs.length = v := (firstE_hit h5 (by rw [h]; exact h2) h4).trans h
  unfold typS; rw [if_neg (by simpa using h1), if_neg (by simpa using h3), e, if_pos h2]
theorem typS_4 (h1 : validE es = 0) (h3 : colsV cs = 0) (h5 : ∀ j, j < zs.length → zerE zs j = 0) : typS cs zs es = topK (runT cs zs es es.length) := by
  unfold typS; rw [if_neg (by simpa using h1), if_neg (by simpa using h3), if_neg (by simpa using firstE_none h5)]
end
def KnR (cs : List Col) (zs : List Zon) (es : List Nd) (k n : Nat) (xs : List Value) (ks : List Kn) : Prop := xs = knC ks ∧ ks.length = n ∧ runT cs zs es k = .ok ks
theorem KnR.len {cs : List Col} {zs : List Zon} {es : List Nd} {k n : Nat} {xs : List Value} {ks : List Kn} (h : KnR cs zs es k n xs ks) : xs.length = n * 2 := by
  rw [h.1, knC_len, h.2.1]
theorem KnR.last {cs : List Col} {zs : List Zon} {es : List Nd} {k : Nat} {xs : List Value} {ks : List Kn} (h : KnR cs zs es k 1 xs ks) : ∃ (kk : Int) (bb : Bool), runT cs zs es k = .ok [(kk, bb)] ∧ xs[0]? = some (.int .i64 kk) ∧ xs[1]? = some (.bool bb) := by
  obtain ⟨rfl, h2, h3⟩ := h
  match ks, h2 with
  | [(kk, bb)], _ => exact ⟨kk, bb, h3, rfl, rfl⟩
theorem KnR.own {cs : List Col} {zs : List Zon} {es : List Nd} {k n c r base : Nat} {e : TypeId} {w : World} {A : Option Addr} {xs : List Value} {ks : List Kn} (hk : KnR cs zs es k n xs ks) (h : w.ownsRow base e 2 (.slice A n c) n xs) (hr : r ≤ n) :
    KnvAt w (if c = r then A else A.map (·.add (r * 2))) (ks.drop r) := by
  obtain ⟨rfl, hn, -⟩ := hk
  rcases h.2 with ⟨hv, hn0⟩ | ⟨g, cap, cur, hv, hg, hh, hnc, hcap, hsz, htk⟩
  · exact .inl (List.eq_nil_of_length_eq_zero (by rw [List.length_drop]; omega))
  · injection hv with h1 h2 h3
    subst h1 h3
    by_cases hrn : r = n
    · exact .inl (List.eq_nil_of_length_eq_zero (by rw [List.length_drop]; omega))
    rw [if_neg (by omega)]
    refine .inr ⟨g, r * 2, ?_, lt_of_heap hh, fun i hi => ?_⟩
    · cases r with
      | zero => simp [Addr.add]
      | succ m => simp [Addr.add]
    · rw [List.length_drop] at hi
      obtain ⟨h3, h4⟩ := knC_at ks (r + i) (by omega)
      rw [List.getElem_drop]
      refine ⟨?_, ?_⟩
      · have hc : w.cell? ⟨g, r * 2 + i * 2, none⟩ = (knC ks)[r * 2 + i * 2]? := World.ownsRow.cellAt h (r * 2 + i * 2) (by omega)
        rw [hc, show r * 2 + i * 2 = (r + i) * 2 by omega]; exact h3
      · have hc : w.cell? ⟨g, r * 2 + i * 2 + 1, none⟩ = (knC ks)[r * 2 + i * 2 + 1]? := World.ownsRow.cellAt h (r * 2 + i * 2 + 1) (by omega)
        rw [hc, show r * 2 + i * 2 + 1 = (r + i) * 2 + 1 by omega]; exact h4
theorem runT_ok {cs : List Col} {zs : List Zon} {es : List Nd} {k n a : Nat} {xs : List Value} {ks : List Kn} {nd : Nd} {kr er : Int} {br : Bool} (h : KnR cs zs es k n xs ks) (hk : k < es.length) (hn : nd = es[k]) (ha : nd.ar.toNat = a)
    (hr : nodeS cs zs nd.op nd.val.kind nd.name (ks.drop (n - a)) = ((kr, br), er)) (he : er = 0) : KnR cs zs es (k + 1) (n - a + 1) (xs.take ((n - a) * 2) ++ [.int .i64 kr, .bool br]) (ks.take (n - a) ++ [(kr, br)]) := by
  obtain ⟨rfl, h2, h3⟩ := h
  refine ⟨by rw [knC_push, knC_take], by simp only [List.length_append, List.length_take, h2, List.length_singleton]; omega, ?_⟩
  unfold runT
  rw [h3]
  simp only [List.getElem?_eq_getElem hk]
  rw [← hn, h2, ha, hr, if_pos he]
theorem runT_bad {cs : List Col} {zs : List Zon} {es : List Nd} {k n a : Nat} {xs : List Value} {ks : List Kn} {nd : Nd} {kr er : Int} {br : Bool} (h : KnR cs zs es k n xs ks) (hk : k < es.length) (hn : nd = es[k]) (ha : nd.ar.toNat = a)
    (hr : nodeS cs zs nd.op nd.val.kind nd.name (ks.drop (n - a)) = ((kr, br), er)) (he : er ≠ 0) : topK (runT cs zs es es.length) = ((0, false), er) := by
  obtain ⟨rfl, h2, h3⟩ := h
  have h4 : runT cs zs es (k + 1) = .error er := by
    unfold runT
    rw [h3]
    simp only [List.getElem?_eq_getElem hk]
    rw [← hn, h2, ha, hr, if_neg he]
  obtain ⟨m, hm⟩ : ∃ m, es.length = k + 1 + m := ⟨es.length - (k + 1), by omega⟩
  rw [hm, runT_stay h4]
  rfl
def tyR (r : Kn × Int) : Ending := .returned (.tuple #[.int .i64 r.1.1, .bool r.1.2, .int .i64 r.2])
set_option maxRecDepth 100000 in
set_option maxHeartbeats 8000000 in
theorem ref9_Type_s (hNode : NodeDet) (A : Option Addr) (es : List Nd) (c : Nat) (C : Option Addr) (cs : List Col) (cc : Nat) (Z : Option Addr) (zs : List Zon) (zc : Nat) (w : World) (hE : NdsAt w A es) (hle : es.length ≤ 1000000) (hx : NamesOk es)
    (hC : ColsAt w C cs) (hcl : cs.length ≤ 1000000) (hZ : ZnsAt w Z zs) (hz : zs.length ≤ 1000000) :
    Calls Tryz.prog 224 #[.slice A es.length c, .slice C cs.length cc, .slice Z zs.length zc] w fun e w' => e = tyR (typS cs zs es) ∧ Below w.heap.size w w' := by
  have HE := hide hE; have HC := hide hC; have HZ := hide hZ
  have HV := hide (ref8_Validate_any A es c w hE hle hx)
  have HVC := hide (fun W (hb : Below w.heap.size w W) => ref5_Validate_s C cs cc W (hC.below hb) hcl)
  have HN := hide hNode
  have T1 := hide (fun (v : Int) (h : validE es = v) (h2 : v ≠ 0) => show typS cs zs es = ((0, false), v) from typS_1 h h2)
  have T2 := hide (fun (v : Int) (h1 : validE es = 0) (h : colsV cs = v) (h2 : v ≠ 0) => show typS cs zs es = ((0, false), v) from typS_2 h1 h h2)
  have T3 := hide (fun (k : Nat) (v : Int) (h1 : validE es = 0) (h3 : colsV cs = 0) (h4 : k < zs.length) (h5 : ∀ j, j < k → zerE zs j = 0) (h : zerE zs k = v) (h2 : v ≠ 0) => show typS cs zs es = ((0, false), v) from typS_3 h1 h3 h4 h5 h h2)
  clear hE hC hZ hx hNode
  obtain ⟨i0, hi, hz0, hz1, hz2⟩ := info_parts Tryz.info_kn
  by_cases h8 : validE es = 0
  rotate_left
  · have HT := hide (T1.out _ rfl h8)
    have hne : (validE es != 0) = true := by simpa using h8
    clear h8 T1 T2 T3
    generalize validE es = x at *
    go_enter Tryz.func224, Tryz.ntmps224
    go_wp2_with (go_at_call 61; refine (HV.out).mono ?_; rintro e w1 ⟨rfl, hb1⟩)
    refine bodyPost_ret (v := .tuple #[.int .i64 0, .bool false, .int .i64 x]) (by simp [results, Tryz.results224, go_sem]) rfl ⟨by rw [HT.out]; rfl, hb1⟩
  rw [h8] at HV
  have hle2 := valid_le h8
  have H8 := hide h8
  have HT2 := hide (fun v => T2.out v h8)
  have HT3 := hide (fun k v => T3.out k v h8)
  clear h8 T1 T2 T3
  obtain ⟨y, hy0⟩ : ∃ y, colsV cs = y := ⟨_, rfl⟩
  have HYc := hide hy0
  rw [hy0] at HVC
  clear hy0
  go_enter Tryz.func224, Tryz.ntmps224
  go_wp2_with (go_at_call 61; refine (HV.out).mono ?_; rintro e w1 ⟨rfl, hb1⟩)
  refine (HVC.out _ hb1).mono ?_
  rintro e w2 ⟨rfl, rfl⟩
  by_cases hy : y = 0
  rotate_left
  · have hy2 : (y != 0) = true := by simpa using hy
    go_wp2
    refine bodyPost_ret (v := .tuple #[.int .i64 0, .bool false, .int .i64 y]) (by simp [results, Tryz.results224, go_sem]) rfl ⟨by rw [HT2.out y HYc.out hy]; rfl, hb1⟩
  subst hy
  have HT4 := hide (fun k v => HT3.out k v HYc.out)
  have HT5 := hide (fun (h5 : ∀ j, j < zs.length → zerE zs j = 0) => show typS cs zs es = _ from typS_4 H8.out HYc.out h5)
  clear HT2 HT3
  go_wp2
  have hsz1 := hb1.size
  go_loopw [11] (fun i wr => ∃ k : Nat, k ≤ zs.length ∧ i = .int .i64 k ∧ Hid (∀ j, j < k → zerE zs j = 0) ∧ Below w.heap.size w wr) (fun i _ => zs.length - (intOf i).toNat)
  case atStart => exact ⟨0, by omega, rfl, hide (fun j hj => absurd hj (Nat.not_lt_zero _)), hb1⟩
  case round =>
    obtain ⟨k, hk, rfl, HNZ, hbel⟩ := hrel
    have hsz := hbel.size
    by_cases hlt : k < zs.length
    · rcases HZ.out.below hbel with e | ⟨g, off, rfl, hg, hcz⟩
      · exact absurd hlt (by rw [e]; simp)
      obtain ⟨S, sc, c0, c1, c2, hS, hsm⟩ := hcz k hlt
      obtain ⟨y, hy0⟩ : ∃ y, zerE zs k = y := ⟨_, rfl⟩
      have HZV := hide (fun W (hW : Below wr.heap.size wr W) => by
        have := ref4_Validate_s ⟨zs[k].name.toArray⟩ zs[k].off S zs[k].sh sc W (hS.below hW) hsm
        rw [← zerE_at hlt, hy0] at this
        exact this)
      have HZ1 := hide (fun h : y ≠ 0 => HT4.out k y hlt HNZ.out hy0 h)
      have HZ0 := hide (fun h : y = 0 => step_lt HNZ.out (show zerE zs k = 0 from hy0.trans h))
      clear hcz hS hy0
      generalize zs[k] = z at *
      go_wp2_with fail
      refine (HZV.out _ (Below.refl _ _)).mono ?_
      rintro e w3 ⟨rfl, hb3⟩
      by_cases hy : y = 0
      · subst hy
        go_wp2
        exact ⟨⟨k + 1, by omega, by go_num, hide (HZ0.out trivial), bel2 hb3 hbel⟩, by simp [intOf]; omega⟩
      · have hy2 : (y != 0) = true := by simpa using hy
        go_wp2
        refine bodyPost_ret (v := .tuple #[.int .i64 0, .bool false, .int .i64 y]) (by simp [results, Tryz.results224, go_sem]) rfl ⟨by rw [HZ1.out hy]; rfl, bel2 hb3 hbel⟩
    · have HFin := hide (HT5.out (fun j hj => HNZ.out j (by omega)))
      clear HT4 HT5 HNZ
      go_wp2
      go_loopw [13, 14] (fun s i wr => ∃ (k n : Nat) (A' : Option Addr) (c' : Nat) (xs : List Value) (ks : List Kn) (st : List Int), s = .slice A' n c' ∧ i = .int .i64 k ∧ k ≤ es.length ∧ Hid (RunRel es k st) ∧ st.length = n ∧ Hid (KnR cs zs es k n xs ks) ∧
          wr.ownsRow w.heap.size 250 2 (.slice A' n c') n xs ∧ Below w.heap.size w wr) (fun _ i _ => es.length - (intOf i).toNat)
      case atStart => exact ⟨0, 0, none, 0, [], [], [], rfl, rfl, by omega, hide rfl, rfl, hide ⟨rfl, rfl, rfl⟩, own_nil _ _ _ _, hbel⟩
      case round =>
        clear hbel hsz hk
        obtain ⟨k, n, A', c', xs, ks, st, rfl, rfl, hk, HR, hsn, HK, hown, hbel⟩ := hrel
        have hsz := hbel.size
        have hn256 : n ≤ 256 := by have := (HR.out.facts hk).2; omega
        by_cases hlt2 : k < es.length
        · obtain ⟨a, ha, ha8, han, st', hst', hlen⟩ := valid_step H8.out hlt2 HR.out
          have HST := hide (And.intro hst' hlen)
          clear hst' hlen
          rcases HE.out.below hbel with e | ⟨g, off, rfl, hg, hc⟩
          · exact absurd hlt2 (by rw [e]; simp)
          have HNd := hide (fun W (hW : Below wr.heap.size wr W) => (nd_of_cells (w := W) (g := g) (off := off) (es := es) (fun j u hu => (hW.cell (p := ⟨g, off + j, none⟩) hg).trans (hc j u hu)) k hlt2))
          have HAr := hide (fun W => ref8_Arity_any es[k].op es[k].val.kind es[k].val.num es[k].arity ⟨es[k].val.text.toArray⟩ ⟨es[k].name.toArray⟩ W)
          have ha1 : arityN es[k].op es[k].arity = (a : Int) := ha
          clear hc
          obtain ⟨nd, hn⟩ : ∃ nd, nd = es[k] := ⟨_, rfl⟩
          rw [← hn] at HNd HAr ha1
          obtain ⟨⟨⟨kr, br⟩, er⟩, hnr⟩ : ∃ q, nodeS cs zs nd.op nd.val.kind nd.name (ks.drop (n - a)) = q := ⟨_, rfl⟩
          have har : nd.ar.toNat = a := by rw [hn, ha]; rfl
          have HOK := hide (fun h : er = 0 => runT_ok (HK.out) hlt2 hn har hnr h)
          have HBad := hide (fun h : er ≠ 0 => show typS cs zs es = ((0, false), er) from HFin.out.trans (by rw [runT_bad HK.out hlt2 hn har hnr h]))
          clear hn ha har
          have HA1 := hide (fun W => by have := HAr.out W; rw [ha1] at this; exact this)
          obtain ⟨r, hr⟩ : ∃ r, r = n - a := ⟨_, rfl⟩
          have hr2 : n = r + a := by omega
          have hsub : (n : Int) - (a : Int) = (r : Int) := by omega
          rw [← hr] at hnr HOK
          have hla : (ks.drop r).length = a := by rw [List.length_drop, HK.out.2.1]; omega
          have HNo := hide (fun X xc W (hW : Below w.heap.size w W) (hX : KnvAt W X (ks.drop r)) => show Calls Tryz.prog 260 #[ndV nd.op nd.val.kind nd.val.num ⟨nd.val.text.toArray⟩ ⟨nd.name.toArray⟩ nd.arity, .slice X a xc, .slice C cs.length cc, .slice Z zs.length zc] W fun e w' => e = .returned (.tuple #[.agg #[.int .i64 kr, .bool br], .int .i64 er]) ∧ Below W.heap.size W w' from by
            have := HN.out nd.op nd.val.kind nd.val.num nd.arity ⟨nd.val.text.toArray⟩ ⟨nd.name.toArray⟩ X C Z cs zs (ks.drop r) xc cc zc W (by rw [hla]; exact ha1.symm) hX (HC.out.below hW) hcl (HZ.out.below hW) hz
            rw [show nodeS cs zs nd.op nd.val.kind (bs ⟨nd.name.toArray⟩) (ks.drop r) = ((kr, br), er) from hnr, hla] at this
            exact this)
          have hcap := own_cap hown
          have HO := hide hown
          obtain ⟨n0, n1, n2, n3, n4, n5⟩ := HNd.out wr (Below.refl _ _)
          clear hr ha1 hown hnr
          go_wp2_with (go_at_call 101; refine (HA1.out _).mono ?_; rintro e w1 ⟨rfl, hb1⟩; obtain ⟨m0, m1, m2, m3, m4, m5⟩ := HNd.out _ hb1)
          subst hr2
          have hbw1 := bel2 hb1 hbel
          have hs1 := hb1.size
          have HOL := hide (fun W (hW : Below wr.heap.size wr W) => fun b hb j u hu => own_cells (own_below HO.out hW) b hb j u (take_some (m := r * 2) hu))
          have HLo := hide (show (xs.take (r * 2)).length = r * 2 from by rw [List.length_take, HK.out.len]; omega)
          have hKn : KnvAt w1 (if c' = r then A' else A'.map (·.add (r * 2))) (ks.drop r) := by
            have := HK.out.own HO.out (r := r) (by omega)
            exact this.below hb1
          have b0 : (0 : Int) ≤ (r : Int) := by omega
          have b1 : (r : Int) ≤ ((r + a : Nat) : Int) := by omega
          have b2 : (r : Int) ≤ (c' : Int) := by omega
          have b3 : (r : Int) ≤ (r : Int) + (a : Int) := by omega
          clear n0 n1 n2 n3 n4 n5
          rcases HO.out.2 with ⟨hv, hn0⟩ | ⟨gs, cap, cur, hv, hgs, hh, hnc, hcapm, hsz2, htk⟩
          · injection hv with h1 h2 h3
            subst h1 h3
            obtain rfl : r = 0 := by omega
            obtain rfl : a = 0 := by omega
            have hKn2 : KnvAt w1 none (ks.drop 0) := .inl (List.eq_nil_of_length_eq_zero hla)
            clear hKn
            first | (go_region_held3 (fun w' => w'.cell? ⟨g, off + k * 6, none⟩ = some (.int .i64 nd.op) ∧ w'.cell? ⟨g, off + k * 6 + 1, none⟩ = some (.int .i64 nd.val.kind) ∧ w'.cell? ⟨g, off + k * 6 + 2, none⟩ = some (.int .i64 nd.val.num) ∧ w'.cell? ⟨g, off + k * 6 + 3, none⟩ = some (str nd.val.text) ∧ w'.cell? ⟨g, off + k * 6 + 4, none⟩ = some (str nd.name) ∧ w'.cell? ⟨g, off + k * 6 + 5, none⟩ = some (.int .i64 nd.arity))
              (first | (refine HNd.out _ ?_; (exact zX; done)) | go_keep)
              ((first | (go_at_call 260; refine (HNo.out _ _ _ zX (hKn2.below zX)).mono ?_; rintro e w3 ⟨rfl, hb3⟩; have hb4 : Below wr.heap.size wr w3 := Below.trans zX (hb3.mono (by simp; omega)); have hb5 := bel2 hb4 hbel; have hz4 := hb4.size; (first | (have hxb : w3.heap[w1.heap.size]? = some (.cells #[.int .i64 0, .bool false] 250) := (hb3.block _ (by simp)).trans (heap_alloc_new w1 _); have x0 : w3.cell? ⟨w1.heap.size, 0, none⟩ = some (.int .i64 0) := (by rw [cell_of_heap hxb]; rfl); have x1 : w3.cell? ⟨w1.heap.size, 1, none⟩ = some (.bool false) := (by rw [cell_of_heap hxb]; rfl); have xf : ∀ i, w3.frozen? ⟨w1.heap.size, i, none⟩ = false := (fun i => free_of_heap hxb i); have s0 := (fun a => (box2set x0 x1 a (.bool true)).1); have s1 := (fun a b => (box2set x0 x1 a b).2); clear hxb) | skip))))) | fail
            all_goals
              have hno := hb5
              clear m0 m1 m2 m3 m4 m5
              by_cases her : er = 0
              · subst her
                go_wp2
                first | (go_region_law ((refine step_append_grows (by rfl) _ _ _ (by rfl) 250 i0 _ 2 16 Tryz.underlying248 hi hz0 hz1 hz2 rfl (by omega) _ _ _ _ (by rfl) (by intro e; first | (cases e; done) | exact ⟨rfl, rfl⟩) HLo.out (HOL.out _ zX) ⟨_, 0, none⟩ 1 1 [.int .i64 kr, .bool br] (by rfl) rfl (by exact cells_2 (heap_new_at (by simp))) (by simp [Value.oneCell']) (by omega) (by unfold maxLen; omega) (by omega) ?_; intro v' w4 hown4 hgrow4))) | fail
                all_goals
                  obtain ⟨A3, c3, rfl⟩ := own_form hown4
                  have hb6 : Below w.heap.size w w4 := (show Below w.heap.size w _ from zX).grown hgrow4 (by simp; omega) (fun k hk => by cases hk)
                  have hown5 := own_low (b2 := w.heap.size) hown4 (by simp; omega)
                  have HFi2 := hide (And.intro (HST.out.1) (And.intro HST.out.2 (And.intro (HOK.out trivial) hown5)))
                  clear hown4 hown5 hgrow4
                  go_wp2
                  exact ⟨⟨k + 1, _, A3, c3, _, _, st', rfl, by go_num, by omega, hide HFi2.out.1, by rw [HFi2.out.2.1]; omega, hide HFi2.out.2.2.1, HFi2.out.2.2.2, hb6⟩, by simp [intOf]; omega⟩
              · have her2 : (er != 0) = true := by simpa using her
                go_wp2
                refine bodyPost_ret (v := .tuple #[.int .i64 0, .bool false, .int .i64 er]) (by simp [results, Tryz.results224, go_sem]) rfl ⟨by rw [HBad.out her]; rfl, zX⟩
          · injection hv with h1 h2 h3
            subst h1 h3
            clear hh htk hsz2
            by_cases hcr : c' = r
            · subst hcr
              obtain rfl : a = 0 := by omega
              have hKn2 : KnvAt w1 (some ⟨gs, 0, none⟩) (ks.drop c') := .inl (List.eq_nil_of_length_eq_zero hla)
              clear hKn
              first | (go_region_held3 (fun w' => w'.cell? ⟨g, off + k * 6, none⟩ = some (.int .i64 nd.op) ∧ w'.cell? ⟨g, off + k * 6 + 1, none⟩ = some (.int .i64 nd.val.kind) ∧ w'.cell? ⟨g, off + k * 6 + 2, none⟩ = some (.int .i64 nd.val.num) ∧ w'.cell? ⟨g, off + k * 6 + 3, none⟩ = some (str nd.val.text) ∧ w'.cell? ⟨g, off + k * 6 + 4, none⟩ = some (str nd.name) ∧ w'.cell? ⟨g, off + k * 6 + 5, none⟩ = some (.int .i64 nd.arity))
                (first | (refine HNd.out _ ?_; (exact zX; done)) | go_keep)
                ((first | (go_at_call 260; refine (HNo.out _ _ _ zX (hKn2.below zX)).mono ?_; rintro e w3 ⟨rfl, hb3⟩; have hb4 : Below wr.heap.size wr w3 := Below.trans zX (hb3.mono (by simp; omega)); have hb5 := bel2 hb4 hbel; have hz4 := hb4.size; (first | (have hxb : w3.heap[w1.heap.size]? = some (.cells #[.int .i64 0, .bool false] 250) := (hb3.block _ (by simp)).trans (heap_alloc_new w1 _); have x0 : w3.cell? ⟨w1.heap.size, 0, none⟩ = some (.int .i64 0) := (by rw [cell_of_heap hxb]; rfl); have x1 : w3.cell? ⟨w1.heap.size, 1, none⟩ = some (.bool false) := (by rw [cell_of_heap hxb]; rfl); have xf : ∀ i, w3.frozen? ⟨w1.heap.size, i, none⟩ = false := (fun i => free_of_heap hxb i); have s0 := (fun a => (box2set x0 x1 a (.bool true)).1); have s1 := (fun a b => (box2set x0 x1 a b).2); clear hxb) | skip))))) | fail
              all_goals
                have hno := hb5
                clear m0 m1 m2 m3 m4 m5
                by_cases her : er = 0
                · subst her
                  go_wp2
                  first | (go_region_law ((refine step_append_grows (by rfl) _ _ _ (by rfl) 250 i0 _ 2 16 Tryz.underlying248 hi hz0 hz1 hz2 rfl (by omega) _ _ _ _ (by rfl) (by intro e; first | (cases e; done) | exact ⟨rfl, rfl⟩) HLo.out (HOL.out _ zX) ⟨_, 0, none⟩ 1 1 [.int .i64 kr, .bool br] (by rfl) rfl (by exact cells_2 (heap_new_at (by simp))) (by simp [Value.oneCell']) (by omega) (by unfold maxLen; omega) (by omega) ?_; intro v' w4 hown4 hgrow4))) | fail
                  all_goals
                    obtain ⟨A3, c3, rfl⟩ := own_form hown4
                    have hb6 : Below w.heap.size w w4 := (show Below w.heap.size w _ from zX).grown hgrow4 (by simp; omega) (fun k hk => by cases hk)
                    have hown5 := own_low (b2 := w.heap.size) hown4 (by simp; omega)
                    have HFi2 := hide (And.intro (HST.out.1) (And.intro HST.out.2 (And.intro (HOK.out trivial) hown5)))
                    clear hown4 hown5 hgrow4
                    go_wp2
                    exact ⟨⟨k + 1, _, A3, c3, _, _, st', rfl, by go_num, by omega, hide HFi2.out.1, by rw [HFi2.out.2.1]; omega, hide HFi2.out.2.2.1, HFi2.out.2.2.2, hb6⟩, by simp [intOf]; omega⟩
                · have her2 : (er != 0) = true := by simpa using her
                  go_wp2
                  refine bodyPost_ret (v := .tuple #[.int .i64 0, .bool false, .int .i64 er]) (by simp [results, Tryz.results224, go_sem]) rfl ⟨by rw [HBad.out her]; rfl, zX⟩
            · rw [if_neg hcr] at hKn
              have hKn2 : KnvAt w1 (some ⟨gs, r * 2, none⟩) (ks.drop r) := by simpa [Addr.add_lit] using hKn
              clear hKn
              first | (go_region_held3 (fun w' => w'.cell? ⟨g, off + k * 6, none⟩ = some (.int .i64 nd.op) ∧ w'.cell? ⟨g, off + k * 6 + 1, none⟩ = some (.int .i64 nd.val.kind) ∧ w'.cell? ⟨g, off + k * 6 + 2, none⟩ = some (.int .i64 nd.val.num) ∧ w'.cell? ⟨g, off + k * 6 + 3, none⟩ = some (str nd.val.text) ∧ w'.cell? ⟨g, off + k * 6 + 4, none⟩ = some (str nd.name) ∧ w'.cell? ⟨g, off + k * 6 + 5, none⟩ = some (.int .i64 nd.arity))
                (first | (refine HNd.out _ ?_; (exact zX; done)) | go_keep)
                ((first | (go_at_call 260; refine (HNo.out _ _ _ zX (hKn2.below zX)).mono ?_; rintro e w3 ⟨rfl, hb3⟩; have hb4 : Below wr.heap.size wr w3 := Below.trans zX (hb3.mono (by simp; omega)); have hb5 := bel2 hb4 hbel; have hz4 := hb4.size; (first | (have hxb : w3.heap[w1.heap.size]? = some (.cells #[.int .i64 0, .bool false] 250) := (hb3.block _ (by simp)).trans (heap_alloc_new w1 _); have x0 : w3.cell? ⟨w1.heap.size, 0, none⟩ = some (.int .i64 0) := (by rw [cell_of_heap hxb]; rfl); have x1 : w3.cell? ⟨w1.heap.size, 1, none⟩ = some (.bool false) := (by rw [cell_of_heap hxb]; rfl); have xf : ∀ i, w3.frozen? ⟨w1.heap.size, i, none⟩ = false := (fun i => free_of_heap hxb i); have s0 := (fun a => (box2set x0 x1 a (.bool true)).1); have s1 := (fun a b => (box2set x0 x1 a b).2); clear hxb) | skip))))) | fail
              all_goals
                have hno := hb5
                clear m0 m1 m2 m3 m4 m5
                by_cases her : er = 0
                · subst her
                  go_wp2
                  first | (go_region_law ((refine step_append_grows (by rfl) _ _ _ (by rfl) 250 i0 _ 2 16 Tryz.underlying248 hi hz0 hz1 hz2 rfl (by omega) _ _ _ _ (by rfl) (by intro e; first | (cases e; done) | exact ⟨rfl, rfl⟩) HLo.out (HOL.out _ zX) ⟨_, 0, none⟩ 1 1 [.int .i64 kr, .bool br] (by rfl) rfl (by exact cells_2 (heap_new_at (by simp))) (by simp [Value.oneCell']) (by omega) (by unfold maxLen; omega) (by omega) ?_; intro v' w4 hown4 hgrow4))) | fail
                  all_goals
                    obtain ⟨A3, c3, rfl⟩ := own_form hown4
                    have hb6 : Below w.heap.size w w4 := (show Below w.heap.size w _ from zX).grown hgrow4 (by simp; omega) (fun k hk => by cases hk)
                    have hown5 := own_low (b2 := w.heap.size) hown4 (by simp; omega)
                    have HFi2 := hide (And.intro (HST.out.1) (And.intro HST.out.2 (And.intro (HOK.out trivial) hown5)))
                    clear hown4 hown5 hgrow4
                    go_wp2
                    exact ⟨⟨k + 1, _, A3, c3, _, _, st', rfl, by go_num, by omega, hide HFi2.out.1, by rw [HFi2.out.2.1]; omega, hide HFi2.out.2.2.1, HFi2.out.2.2.2, hb6⟩, by simp [intOf]; omega⟩
                · have her2 : (er != 0) = true := by simpa using her
                  go_wp2
                  refine bodyPost_ret (v := .tuple #[.int .i64 0, .bool false, .int .i64 er]) (by simp [results, Tryz.results224, go_sem]) rfl ⟨by rw [HBad.out her]; rfl, zX⟩
        · obtain rfl : k = es.length := by omega
          have h1 := valid_last H8.out HR.out
          obtain rfl : n = 1 := by omega
          obtain ⟨kk, bb, hT, g0, g1⟩ := HK.out.last
          have HTl := hide (show typS cs zs es = ((kk, bb), 0) from HFin.out.trans (by rw [hT]; rfl))
          clear hT
          rcases hown.2 with ⟨hv, hn0⟩ | ⟨gs, cap, cur, hv, hgs, hh, hnc, hcapm, hsz2, htk⟩
          · omega
          · injection hv with e1 e2 e3
            subst e1 e3
            have x0 : wr.cell? ⟨gs, 0, none⟩ = some (.int .i64 kk) := (World.ownsRow.cellAt hown 0 (by omega)).trans g0
            have x1 : wr.cell? ⟨gs, 1, none⟩ = some (.bool bb) := (World.ownsRow.cellAt hown 1 (by omega)).trans g1
            clear hh htk hsz2 hown
            go_wp2
            go_big_quiet (fail)
            go_wp2
            refine bodyPost_ret (v := .tuple #[.int .i64 kk, .bool bb, .int .i64 0]) (by simp [results, Tryz.results224, go_sem]) rfl ⟨by rw [HTl.out]; rfl, zX⟩
def unkS (cs : List Col) (es : List Nd) : Bool := (typS cs zonesL es).2 == 0 && (typS cs zonesL es).1.1 == 0
set_option maxRecDepth 100000 in
theorem base_Unknown_s (A : Option Addr) (es : List Nd) (c : Nat) (C : Option Addr) (cs : List Col) (cc : Nat) (w : World) (hE : NdsAt w A es) (hle : es.length ≤ 1000000) (hx : NamesOk es)
    (hC : ColsAt w C cs) (hcl : cs.length ≤ 1000) : Calls Tryz.prog 221 #[.slice A es.length c, .slice C cs.length cc] w fun e w' => e = .returned (.bool (unkS cs es)) ∧ Below w.heap.size w w' := by
  have HE := hide hE; have HC := hide hC; have HX := hide hx
  have HT := hide (fun Z zc W (hb : Below w.heap.size w W) (hZ : ZnsAt W Z zonesL) => ref9_Type_s node_det A es c C cs cc Z zonesL zc W (hE.below hb) hle hx (hC.below hb) (by omega) hZ (by decide))
  have HU := hide (show unkS cs es = ((typS cs zonesL es).2 == 0 && (typS cs zonesL es).1.1 == 0) from rfl)
  clear hE hC hx
  generalize typS cs zonesL es = r at *
  obtain ⟨⟨k, b⟩, x⟩ := r
  go_enter Tryz.func221, Tryz.ntmps221
  go_wp2_with fail
  refine (base_Zones_s w).mono ?_
  rintro e w1 ⟨⟨Z, zc, rfl, hZ⟩, hb1⟩
  have HZ := hide hZ
  clear hZ
  have hl3 : zonesL.length = 3 := rfl
  go_wp2_with fail
  refine (HT.out Z zc w1 hb1 HZ.out).mono ?_
  rintro e w2 ⟨h, hb2⟩
  obtain rfl : e = .returned (.tuple #[.int .i64 k, .bool b, .int .i64 x]) := h
  have hb3 := bel2 hb2 hb1
  by_cases hx0 : x = 0
  · subst hx0
    go_wp2
    go_ret
    exact ⟨ret_bool (by rw [HU.out]; simp), hb3⟩
  · have hx1 : (x == 0) = false := beq_eq_false_iff_ne.2 hx0
    go_wp2
    go_ret
    exact ⟨ret_bool (by rw [HU.out]; simp [hx1]), hb3⟩
end Go.Proofs.YtmbeeefkpgfgmaaGreatDoor
