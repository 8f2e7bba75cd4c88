/- Contracts: ref8.Raise, ref8.Validate. Contracts: base.Moment, base.Value, base.Any: some valid value; base.constant. Contracts: base.apply. Plain: what a valid list of nodes says of each prefix; names' lengths; small facts of rows and blocks. -/
import Derived.Test.YtmbeeefkpgfgmaaGreatDoorPq05
import Derived.WalkLawsBesides
import Derived.Deep.Slices
import Derived.Laws.Rows
set_option linter.unusedVariables false
set_option linter.unusedSimpArgs false
namespace Go.Proofs.YtmbeeefkpgfgmaaGreatDoor
open Go.RowKit
theorem bel2 {w a b : World} (h2 : Below a.heap.size a b) (h1 : Below w.heap.size w a) : Below w.heap.size w b := h1.trans (h2.mono h1.size)
theorem fold_succ (st : List Int) (r j : Nat) (h : r + j < st.length) : ((st.drop r).take (j + 1)).foldl max 0 = max (((st.drop r).take j).foldl max 0) (st.getD (r + j) 0) := by
  have hj : j < (st.drop r).length := by rw [List.length_drop]; omega
  rw [List.take_succ_eq_append_getElem hj, List.foldl_append]
  simp [List.getD_eq_getElem?_getD, List.getElem?_eq_getElem h]
theorem stk_get {st : List Int} (hs : StkOk st) (i : Nat) (h : i < st.length) : 1 ≤ st.getD i 0 ∧ st.getD i 0 ≤ 64 := by
  rw [List.getD_eq_getElem?_getD, List.getElem?_eq_getElem h]
  exact hs _ (List.getElem_mem h)
theorem fold_bd {st : List Int} (hs : StkOk st) (r j : Nat) : 0 ≤ ((st.drop r).take j).foldl max 0 ∧ ((st.drop r).take j).foldl max 0 ≤ 64 :=
  ⟨(foldl_max_ge _ 0).1, foldl_max_le _ 0 64 (by omega) (fun x hx => (hs x (List.mem_of_mem_drop (List.mem_of_mem_take hx))).2)⟩
set_option maxRecDepth 100000 in
set_option maxHeartbeats 1000000 in
theorem ref8_Raise_any (A : Option Addr) (st : List Int) (c ar : Nat) (w : World) (h : IntsAt w A st) (har : ar ≤ st.length) (hc : st.length ≤ c) (hn : A = none → c = 0) (hs : StkOk st) (hl : st.length ≤ 1000000) (hcm : c ≤ maxLen) :
    Calls Tryz.prog 102 #[.slice A st.length c, .int .i64 ar] w fun e w' => e = .returned (.tuple #[.int .i64 (topH st ar), .slice A (st.length - ar : Nat) c]) ∧ ∃ n, w' = w.drewN n := by
  have HI := hide h
  have HS := hide hs
  unfold maxLen at hcm
  have HT := hide (show topH st ar = ((st.drop (st.length - ar)).take ar).foldl max 0 + 1 by
    unfold topH; rw [List.take_of_length_le (by rw [List.length_drop]; omega)])
  have hb := fold_bd hs (st.length - ar) ar
  obtain ⟨r, hr⟩ : ∃ r, r = st.length - ar := ⟨_, rfl⟩
  have hr2 : st.length = r + ar := by omega
  rw [← hr] at HT hb
  rw [show (st.length - ar : Nat) = r from hr.symm]
  clear h hs hr
  have hsub : (st.length : Int) - (ar : Int) = (r : Int) := by omega
  obtain ⟨n, hnn⟩ : ∃ n, n = st.length := ⟨_, rfl⟩
  have HM := hide hnn
  rw [← hnn] at har hc hl hr2 hsub ⊢
  clear hnn
  go_enter Tryz.func102, Tryz.ntmps102
  go_wp2
  go_loop [6, 8] (fun h i => ∃ j : Nat, j ≤ ar ∧ i = .int .i64 ((r : Int) + (j : Int)) ∧ h = .int .i64 (((st.drop r).take j).foldl max 0)) (fun _ i => n - (intOf i).toNat)
  case atStart => exact ⟨0, by omega, by simp, by simp⟩
  case round =>
    obtain ⟨j, hj, rfl, rfl⟩ := hrel
    by_cases hlt : j < ar
    · rcases HI.out with e | ⟨a, rfl, _, _, hac⟩
      · have := HM.out; rw [e] at this; simp at this; omega
      have hcell := hac (r + j) (by rw [← HM.out]; omega)
      have hx := stk_get HS.out (r + j) (by rw [← HM.out]; omega)
      have HF := hide (fold_succ st r j (by rw [← HM.out]; omega))
      have hb2 := fold_bd HS.out r j
      clear hac hb
      generalize st.getD (r + j) 0 = x at *
      generalize ((st.drop r).take j).foldl max 0 = y at *
      go_wp2
      go_round
      case rel => exact ⟨j + 1, by omega, by simp; omega, by rw [HF.out]⟩
      case measure => simp [intOf]; omega
    · obtain rfl : j = ar := by omega
      clear hj hlt
      generalize ((st.drop r).take j).foldl max 0 = y at *
      cases A with
      | none =>
        obtain rfl := hn rfl
        obtain rfl : n = 0 := by omega
        obtain rfl : r = 0 := by omega
        obtain rfl : j = 0 := by omega
        have hw : IntKind.i64.wrap (y + 1) = y + 1 := IntWalk.i64_in _ (by omega)
        clear hsub hr2 hc hl har hb hcm HI hn
        go_wp2
        go_big_quiet (fail)
        go_wp2
        go_ret2
        exact ⟨by rw [HT.out]; first | rfl | (simp; done) | (simp [hw]; done), _, rfl⟩
      | some a =>
        have c1 : (r : Int) ≤ (c : Int) := by omega
        have c2 : r ≤ c := by omega
        have hw : IntKind.i64.wrap (y + 1) = y + 1 := IntWalk.i64_in _ (by omega)
        go_wp2
        go_big_quiet (fail)
        go_wp2
        go_ret2
        exact ⟨by rw [HT.out]; first | rfl | (simp; done) | (simp [hw]; done), _, rfl⟩
theorem Tryz.info_int : (Tryz.prog.info? 3).map (fun i => (i.zero, i.size, i.bytes)) = some (some (.int .i64 0), 1, 8) := by kernel_rfl
theorem cells_1 {W : World} {B : Nat} {a : Value} {t : TypeId} (h : W.heap[B]? = some (.cells #[a] t)) : ∀ (j : Nat) (u : Value), [a][j]? = some u → W.cell? ((⟨B, 0, none⟩ : Addr).add j) = some u := by
  intro j u hu
  have e : (⟨B, 0, none⟩ : Addr).add j = ⟨B, j, none⟩ := by unfold Addr.add; split <;> simp_all
  rw [e, cell_of_heap h]
  simpa using hu
abbrev intVs (st : List Int) : List Value := st.map (Value.int .i64)
theorem ints_own {w : World} {base e c : Nat} {A : Option Addr} {st : List Int} (h : w.ownsRow base e 1 (.slice A st.length c) st.length (intVs st)) (hl : st.length ≤ maxLen) : IntsAt w A st ∧ st.length ≤ c ∧ (A = none → c = 0) ∧ c ≤ maxLen := by
  rcases h.2 with ⟨hv, hn⟩ | ⟨g, cap, cur, hv, hg, hh, hnc, hcap, hsz, htk⟩
  · injection hv with h1 h2 h3
    subst h1 h3
    exact ⟨.inl (List.eq_nil_of_length_eq_zero hn), by omega, fun _ => rfl, Nat.zero_le _⟩
  · injection hv with h1 h2 h3
    subst h1 h3
    refine ⟨.inr ⟨⟨g, 0, none⟩, rfl, lt_of_heap hh, hl, fun k hk => ?_⟩, hnc, (fun e => by cases e), hcap⟩
    have e : (⟨g, 0, none⟩ : Addr).add k = ⟨g, k, none⟩ := by unfold Addr.add; split <;> simp_all
    rw [e, World.ownsRow.cellAt h k (by omega)]
    simp [List.getD_eq_getElem?_getD, List.getElem?_eq_getElem hk]
theorem own_take {w : World} {base e c n r : Nat} {A : Option Addr} {xs : List Value} (h : w.ownsRow base e 1 (.slice A n c) n xs) (hr : r ≤ n) : w.ownsRow base e 1 (.slice A r c) r (xs.take r) := by
  refine ⟨by rw [List.length_take, h.1]; omega, ?_⟩
  rcases h.2 with ⟨hv, hn⟩ | ⟨g, cap, cur, hv, hg, hh, hnc, hcap, hsz, htk⟩
  · injection hv with h1 h2 h3
    subst h1 h3
    left
    have : r = 0 := by omega
    subst this
    exact ⟨rfl, rfl⟩
  · injection hv with h1 h2 h3
    subst h1 h3
    right
    refine ⟨g, c, cur, rfl, hg, hh, by omega, hcap, hsz, ?_⟩
    rw [← htk, List.take_take]
    congr 1; omega
def NamesOk (es : List Nd) : Prop := ∀ n ∈ es, n.name.length ≤ maxLen
def RunRel (es : List Nd) (k : Nat) (st : List Int) : Prop := runE (es.take k) [] = .ok st
theorem RunRel.facts {es : List Nd} {k : Nat} {st : List Int} (h : RunRel es k st) (hk : k ≤ es.length) : StkOk st ∧ st.length ≤ k := by
  obtain ⟨a, b⟩ := runE_stk _ _ _ h (fun x hx => by cases hx)
  refine ⟨a, ?_⟩
  rw [List.length_take] at b
  simp at b; omega
theorem valid_end {es : List Nd} {st : List Int} (h256 : ¬ 256 < es.length) (h : RunRel es es.length st) : validE es = if st.length = 1 then 0 else 8 := by
  unfold RunRel at h
  rw [List.take_length] at h
  unfold validE
  rw [if_neg h256, h]
theorem valid_fail {es : List Nd} {k : Nat} {st : List Int} {x : Int} (h256 : ¬ 256 < es.length) (h : RunRel es k st) (hk : k < es.length) (hf : stepE es[k] st = .error x) : validE es = x := by
  have h2 : runE es [] = .error x := runE_fails (k := k + 1) (by rw [runE_take h hk]; exact hf)
  unfold validE
  rw [if_neg h256, h2]
theorem RunRel.step {es : List Nd} {k : Nat} {st st' : List Int} (h : RunRel es k st) (hk : k < es.length) (hf : stepE es[k] st = .ok st') : RunRel es (k + 1) st' := by
  unfold RunRel
  rw [runE_take h hk]; exact hf
theorem step_shape {n : Nd} {st : List Int} (h : n.ok = false ∨ (st.length : Int) < n.ar) : stepE n st = .error 8 := by unfold stepE; rw [if_pos h]
theorem step_high {n : Nd} {st : List Int} (h : n.ok = true) (h2 : ¬ (st.length : Int) < n.ar) (h3 : 64 < topH st n.ar.toNat) : stepE n st = .error 2 := by unfold stepE; rw [if_neg (by simp [h]; omega), if_pos h3]
theorem step_fine {n : Nd} {st : List Int} (h : n.ok = true) (h2 : ¬ (st.length : Int) < n.ar) (h3 : ¬ 64 < topH st n.ar.toNat) : stepE n st = .ok (st.take (st.length - n.ar.toNat) ++ [topH st n.ar.toNat]) := by unfold stepE; rw [if_neg (by simp [h]; omega), if_neg h3]
set_option maxRecDepth 100000 in
set_option maxHeartbeats 4000000 in
theorem ref8_Validate_any (A : Option Addr) (es : List Nd) (c : Nat) (w : World) (h : NdsAt w A es) (hl : es.length ≤ 1000000) (hx : NamesOk es) :
    Calls Tryz.prog 61 #[.slice A es.length c] w fun e w' => e = .returned (.int .i64 (validE es)) ∧ Below w.heap.size w w' := by
  have HA := hide h; have HX := hide hx
  clear h hx
  by_cases h256 : 256 < es.length
  · have HE := hide (show validE es = 2 by unfold validE; rw [if_pos h256])
    go_enter Tryz.func61, Tryz.ntmps61
    go_wp2
    go_ret
    exact ⟨by rw [HE.out]; rfl, by (repeat (first | exact Below.refl _ _ | assumption | refine Below.drew ?_ | refine below_drewN ?_ _ | refine Below.alloc ?_ (by first | omega | simp <;> omega) _ | refine Below.setCell ?_ (by first | omega | simp <;> omega) _))⟩
  have H256 := hide h256
  obtain ⟨i0, hi, hz0, hz1, hz2⟩ := info_parts Tryz.info_int
  go_enter Tryz.func61, Tryz.ntmps61
  go_wp2
  go_loopw [3, 4] (fun s i wr => ∃ (k : Nat) (st : List Int) (A' : Option Addr) (c' : Nat), s = .slice A' st.length c' ∧ i = .int .i64 k ∧ k ≤ es.length ∧ Hid (RunRel es k st) ∧
      wr.ownsRow w.heap.size 3 1 (.slice A' st.length c') st.length (intVs st) ∧ Below w.heap.size w wr) (fun _ i _ => es.length - (intOf i).toNat)
  case atStart => exact ⟨0, [], none, 0, rfl, rfl, by omega, rfl, own_nil _ _ _ _, Below.refl _ _⟩
  case round =>
    obtain ⟨k, st, A', c', rfl, rfl, hk, HR, hown, hbel⟩ := hrel
    obtain ⟨hso, hsl⟩ := HR.out.facts hk
    have HSO := hide hso
    clear hso
    have hsz := hbel.size
    by_cases hlt : k < es.length
    · rcases HA.out.below hbel with e | ⟨g, off, rfl, hg, hc⟩
      · exact absurd hlt (by rw [e]; simp)
      have HN := hide (fun W (hW : Below wr.heap.size wr W) => (nd_of_cells (w := W) (g := g) (off := off) (es := es) (fun j u hu => (hW.cell (p := ⟨g, off + j, none⟩) hg).trans (hc j u hu)) k hlt))
      have HF := hide (fun W => ref8_formed_any es[k].op es[k].val.kind es[k].val.num es[k].arity ⟨es[k].val.text.toArray⟩ ⟨es[k].name.toArray⟩ W (by show es[k].name.toArray.size ≤ _; have := HX.out _ (List.getElem_mem hlt); simpa using this))
      have HAr := hide (fun W => ref8_Arity_any es[k].op es[k].val.kind es[k].val.num es[k].arity ⟨es[k].val.text.toArray⟩ ⟨es[k].name.toArray⟩ W)
      have HV := hide (fun x hf => valid_fail (x := x) H256.out HR.out hlt hf)
      have HS := hide (fun st' hf => RunRel.step (st' := st') HR.out hlt hf)
      clear hc
      obtain ⟨n, hn⟩ : ∃ n, n = es[k] := ⟨_, rfl⟩
      rw [← hn] at HN HF HAr HV HS
      clear hn
      obtain ⟨n0, n1, n2, n3, n4, n5⟩ := HN.out wr (Below.refl _ _)
      have hok1 : shapedN n.op n.val.kind n.val.num (bs ⟨n.val.text.toArray⟩) (bs ⟨n.name.toArray⟩) n.arity = n.ok := rfl
      cases hok : n.ok
      · have HE := hide (HV.out 8 (step_shape (.inl hok)))
        rw [hok] at hok1
        have HF1 := hide (fun W => by have := HF.out W; rw [hok1] at this; exact this)
        clear hok hok1
        go_wp2_with (go_at_call 100; refine (HF1.out _).mono ?_; rintro e w1 ⟨rfl, hb1⟩)
        go_ret
        exact ⟨by rw [HE.out]; rfl, bel2 hb1 hbel⟩
      · rw [hok] at hok1
        have HF1 := hide (fun W => by have := HF.out W; rw [hok1] at this; exact this)
        obtain ⟨ha0, ha8⟩ := shaped_ar hok
        obtain ⟨a, ha⟩ : ∃ a : Nat, n.ar = a := ⟨n.ar.toNat, by omega⟩
        have ha1 : arityN n.op n.arity = (a : Int) := ha
        have HA1 := hide (fun W => by have := HAr.out W; rw [ha1] at this; exact this)
        by_cases hlt2 : st.length < a
        · have HE := hide (HV.out 8 (step_shape (.inr (by rw [ha]; omega))))
          clear hok hok1 ha ha0 ha8 ha1
          go_wp2_with (first
            | (go_at_call 100; refine (HF1.out _).mono ?_; rintro e w1 ⟨rfl, hb1⟩; obtain ⟨m0, m1, m2, m3, m4, m5⟩ := HN.out _ hb1)
            | (go_at_call 101; refine (HA1.out _).mono ?_; rintro e w2 ⟨rfl, hb2⟩))
          go_ret
          exact ⟨by rw [HE.out]; rfl, bel2 hb2 (bel2 hb1 hbel)⟩
        · obtain ⟨hI, hcc, hcn, hcm⟩ := ints_own hown (by unfold maxLen; omega)
          have HI := hide hI; have HCN := hide hcn; have HCM := hide hcm
          have hb64 : topH st a ≤ 65 := by
            have := fold_bd HSO.out (st.length - a) st.length
            rw [List.take_of_length_le (by rw [List.length_drop]; omega)] at this
            unfold topH; omega
          have hp64 := topH_pos st a
          clear hI hcn hcm
          have HRa := hide (fun W (hW : Below wr.heap.size wr W) => ref8_Raise_any A' st c' a W (HI.out.below hW) (by omega) hcc HCN.out HSO.out (by omega) HCM.out)
          by_cases h64 : 64 < topH st a
          · have HE := hide (HV.out 2 (step_high hok (by rw [ha]; omega) (by rw [ha]; simpa using h64)))
            clear hok hok1 ha ha0 ha8 ha1
            generalize topH st a = y at *
            go_wp2_with (first
              | (go_at_call 100; refine (HF1.out _).mono ?_; rintro e w1 ⟨rfl, hb1⟩; obtain ⟨m0, m1, m2, m3, m4, m5⟩ := HN.out _ hb1)
              | (go_at_call 101; refine (HA1.out _).mono ?_; rintro e w1 ⟨rfl, hb2⟩; have hb1 := bel2 hb2 hb1; obtain ⟨m0, m1, m2, m3, m4, m5⟩ := HN.out _ hb1; clear hb2)
              | (go_at_call 102; refine (HRa.out _ hb1).mono ?_; rintro e w1 ⟨rfl, q, rfl⟩))
            go_ret
            exact ⟨by rw [HE.out]; rfl, below_drewN (bel2 hb1 hbel) _⟩
          · have HE := hide (HS.out _ (step_fine hok (by rw [ha]; omega) (by rw [ha]; simpa using h64)))
            rw [ha, Int.toNat_natCast] at HE
            clear hok hok1 ha ha0 ha8 ha1
            generalize topH st a = y at *
            go_wp2_with (first
              | (go_at_call 100; refine (HF1.out _).mono ?_; rintro e w1 ⟨rfl, hb1⟩; obtain ⟨m0, m1, m2, m3, m4, m5⟩ := HN.out _ hb1)
              | (go_at_call 101; refine (HA1.out _).mono ?_; rintro e w1 ⟨rfl, hb2⟩; have hb1 := bel2 hb2 hb1; obtain ⟨m0, m1, m2, m3, m4, m5⟩ := HN.out _ hb1; clear hb2)
              | (go_at_call 102; refine (HRa.out _ hb1).mono ?_; rintro e w2 ⟨rfl, q, rfl⟩)
              | (at_builtin; refine wpList_append_own _ rfl _ _ 28 rfl w.heap.size 3 i0 _ 1 8 Tryz.underlying28 hi hz0 hz1 hz2 rfl (by decide) _ _ _ rfl (own_take (own_below hown (below_drewN hb1 q)) (Nat.sub_le _ a) |>.alloc _) ⟨(w1.drewN q).heap.size, 0, none⟩ 1 1 [.int .i64 y] rfl rfl (by exact cells_1 (heap_alloc_new _ _)) (by simp [Value.oneCell']) (by unfold maxLen; omega) (by omega) (by have := hb1.size; simp; omega) ?_; intro v' w3 hown3 hgrow _))
            obtain ⟨A3, c3, rfl⟩ := own_form hown3
            have hlen : (st.take (st.length - a) ++ [y]).length = st.length - a + 1 := by simp
            have hvals : intVs (st.take (st.length - a) ++ [y]) = (intVs st).take (st.length - a) ++ [.int .i64 y] := by simp [intVs, List.map_take]
            have hb3 : Below w.heap.size w w3 := ((bel2 (below_drewN hb1 q) hbel).alloc (by have := hb1.size; show _ ≤ (w1.drewN q).heap.size; exact Nat.le_trans hsz this) _).grown hgrow (by have := hb1.size; first | (simp; done) | (simp; omega)) (fun k hk => ((own_take (own_below hown (below_drewN hb1 q)) (Nat.sub_le st.length a)).lt k hk).1)
            have HO := hide (show w3.ownsRow w.heap.size 3 1 (.slice A3 (st.take (st.length - a) ++ [y]).length c3) (st.take (st.length - a) ++ [y]).length (intVs (st.take (st.length - a) ++ [y])) from by rw [hlen, hvals]; exact hown3)
            have HL := hide hlen.symm
            clear hown3 hgrow hvals hlen hown
            go_wp2
            exact ⟨⟨k + 1, _, A3, c3, by rw [← HL.out], by go_num, by omega, HE, HO.out, hb3⟩, by simp [intOf]; omega⟩
    · obtain rfl : k = es.length := by omega
      have HE := hide (valid_end H256.out HR.out)
      by_cases h1 : st.length = 1
      · have hb1 : ((st.length : Int) != 1) = false := by simp; omega
        rw [if_pos h1] at HE
        go_wp2
        go_ret
        exact ⟨by rw [HE.out]; rfl, hbel⟩
      · have hb1 : ((st.length : Int) != 1) = true := by simp; omega
        rw [if_neg h1] at HE
        go_wp2
        go_ret
        exact ⟨by rw [HE.out]; rfl, hbel⟩
theorem topH_eq (st : List Int) (a : Nat) (ha : a ≤ st.length) : topH st a = 1 + ((st.drop (st.length - a)).take a).foldl max 0 := by
  unfold topH
  rw [List.take_of_length_le (by rw [List.length_drop]; omega)]; omega
set_option maxRecDepth 100000 in
set_option maxHeartbeats 4000000 in
theorem expr_Validate_any (A : Option Addr) (es : List Nd) (c : Nat) (w : World) (hW : StrVar w 2 wordsS) (h : NdsAt w A es) (hl : es.length ≤ 1000000) (hx : NamesOk es) :
    Calls Tryz.prog 45 #[.slice A es.length c] w fun e w' => e = .returned (.int .i64 (validE es)) ∧ Below w.heap.size w w' := by
  have HA := hide h; have HX := hide hx; have HW := hide hW
  clear h hx hW
  by_cases h256 : 256 < es.length
  · have HE := hide (show validE es = 2 by unfold validE; rw [if_pos h256])
    go_enter Tryz.func45, Tryz.ntmps45
    go_wp2
    go_ret
    exact ⟨by rw [HE.out]; rfl, by (repeat (first | exact Below.refl _ _ | assumption | refine Below.drew ?_ | refine below_drewN ?_ _ | refine Below.alloc ?_ (by first | omega | simp <;> omega) _ | refine Below.setCell ?_ (by first | omega | simp <;> omega) _))⟩
  have H256 := hide h256
  obtain ⟨i0, hi, hz0, hz1, hz2⟩ := info_parts Tryz.info_int
  go_enter Tryz.func45, Tryz.ntmps45
  go_wp2
  go_loopw [3, 15] (fun s i wr => ∃ (k : Nat) (st : List Int) (A' : Option Addr) (c' : Nat), s = .slice A' st.length c' ∧ i = .int .i64 k ∧ k ≤ es.length ∧ Hid (RunRel es k st) ∧
      wr.ownsRow w.heap.size 3 1 (.slice A' st.length c') st.length (intVs st) ∧ Below w.heap.size w wr) (fun _ i _ => es.length - (intOf i).toNat)
  case atStart => exact ⟨0, [], none, 0, rfl, rfl, by omega, rfl, own_nil _ _ _ _, Below.refl _ _⟩
  case round =>
    obtain ⟨k, st, A', c', rfl, rfl, hk, HR, hown, hbel⟩ := hrel
    obtain ⟨hso, hsl⟩ := HR.out.facts hk
    have HSO := hide hso
    clear hso
    have hsz := hbel.size
    by_cases hlt : k < es.length
    · rcases HA.out.below hbel with e | ⟨g, off, rfl, hg, hc⟩
      · exact absurd hlt (by rw [e]; simp)
      have HN := hide (fun W (hW : Below wr.heap.size wr W) => (nd_of_cells (w := W) (g := g) (off := off) (es := es) (fun j u hu => (hW.cell (p := ⟨g, off + j, none⟩) hg).trans (hc j u hu)) k hlt))
      have HF := hide (fun W (hW : Below w.heap.size w W) => expr_shaped_any es[k].op es[k].val.kind es[k].val.num es[k].arity ⟨es[k].val.text.toArray⟩ ⟨es[k].name.toArray⟩ W (HW.out.below hW) (by show es[k].name.toArray.size ≤ _; have := HX.out _ (List.getElem_mem hlt); simpa using this))
      have HAr := hide (fun W => expr_Arity_any es[k].op es[k].val.kind es[k].val.num es[k].arity ⟨es[k].val.text.toArray⟩ ⟨es[k].name.toArray⟩ W)
      have HV := hide (fun x hf => valid_fail (x := x) H256.out HR.out hlt hf)
      have HS := hide (fun st' hf => RunRel.step (st' := st') HR.out hlt hf)
      clear hc
      obtain ⟨n, hn⟩ : ∃ n, n = es[k] := ⟨_, rfl⟩
      rw [← hn] at HN HF HAr HV HS
      clear hn
      obtain ⟨n0, n1, n2, n3, n4, n5⟩ := HN.out wr (Below.refl _ _)
      have hok1 : shapedN n.op n.val.kind n.val.num (bs ⟨n.val.text.toArray⟩) (bs ⟨n.name.toArray⟩) n.arity = n.ok := rfl
      have hcur := Below.refl (wr.heap.size + 1) (wr.alloc (ndBox n.op n.val.kind n.val.num ⟨n.val.text.toArray⟩ ⟨n.name.toArray⟩ n.arity))
      cases hok : n.ok
      · have HE := hide (HV.out 8 (step_shape (.inl hok)))
        rw [hok] at hok1
        have HF1 := hide (fun W hW => by have := HF.out W hW; rw [hok1] at this; exact this)
        clear hok hok1
        go_wp2_with (go_at_call 91; refine (HF1.out _ (bel2 (box_below hcur) hbel)).mono ?_; rintro e w1 ⟨rfl, hb1⟩; have hcur := below_go hcur (by simp) hb1)
        go_ret
        exact ⟨by rw [HE.out]; rfl, bel2 (box_below hcur) hbel⟩
      · rw [hok] at hok1
        have HF1 := hide (fun W hW => by have := HF.out W hW; rw [hok1] at this; exact this)
        obtain ⟨ha0, ha8⟩ := shaped_ar hok
        obtain ⟨a, ha⟩ : ∃ a : Nat, n.ar = a := ⟨n.ar.toNat, by omega⟩
        have ha1 : arityN n.op n.arity = (a : Int) := ha
        have HA1 := hide (fun W => by have := HAr.out W; rw [ha1] at this; exact this)
        by_cases hlt2 : st.length < a
        · have HE := hide (HV.out 8 (step_shape (.inr (by rw [ha]; omega))))
          clear hok hok1 ha ha0 ha8 ha1
          go_wp2_with (first
            | (go_at_call 91; refine (HF1.out _ (bel2 (box_below hcur) hbel)).mono ?_; rintro e w1 ⟨rfl, hb1⟩; have hcur := below_go hcur (by simp) hb1; obtain ⟨k0, k1, k2, k3, k4, k5, k6⟩ := box6 hcur; clear hb1)
            | (go_at_call 92; refine (HA1.out _).mono ?_; rintro e w1 ⟨rfl, hb1⟩; have hcur := below_go hcur (by simp) hb1; obtain ⟨k0, k1, k2, k3, k4, k5, k6⟩ := box6 hcur; clear hb1))
          go_ret
          exact ⟨by rw [HE.out]; rfl, bel2 (box_below hcur) hbel⟩
        · obtain ⟨hI, hcc, hcn, hcm⟩ := ints_own hown (by unfold maxLen; omega)
          have HI := hide hI; have HCN := hide hcn; have HCM := hide hcm
          unfold maxLen at hcm
          obtain ⟨r, hr⟩ : ∃ r, r = st.length - a := ⟨_, rfl⟩
          have hr2 : st.length = r + a := by omega
          have hsub : (st.length : Int) - (a : Int) = (r : Int) := by omega
          have HT := hide (topH_eq st a (by omega))
          rw [← hr] at HT
          have HST := hide (fun (h3 : ¬ 64 < topH st a) => HS.out _ (step_fine hok (by rw [ha]; omega) (by rw [ha, Int.toNat_natCast]; exact h3)))
          rw [ha, Int.toNat_natCast, ← hr] at HST
          have HV2 := hide (fun (h3 : 64 < topH st a) => HV.out 2 (step_high hok (by rw [ha]; omega) (by rw [ha, Int.toNat_natCast]; exact h3)))
          clear hI hcn hok hok1 ha ha0 ha8 ha1 hr HAr HF
          go_wp2_with (first
            | (go_at_call 91; refine (HF1.out _ (bel2 (box_below hcur) hbel)).mono ?_; rintro e w1 ⟨rfl, hb1⟩; have hcur := below_go hcur (by simp) hb1; obtain ⟨k0, k1, k2, k3, k4, k5, k6⟩ := box6 hcur; clear hb1)
            | (go_at_call 92; refine (HA1.out _).mono ?_; rintro e w1 ⟨rfl, hb1⟩; have hcur := below_go hcur (by simp) hb1; obtain ⟨k0, k1, k2, k3, k4, k5, k6⟩ := box6 hcur; clear hb1))
          all_goals
            (try (have hcr := (by assumption : c' = r); subst c'))
            have hbx := box_below hcur
            have hby := bel2 hbx hbel
            have hII := HI.out.below hbx
            have HII := hide hII
            have hHO := own_below hown hbx
            have HOwn := hide hHO
            have hzz := hbx.size
            clear hII hHO hcur hown k0 k1 k2 k3 k4 k5 n0 n1 n2 n3 n4 n5
            go_wp2
            go_loop [7, 38] (fun h j => ∃ i : Nat, i ≤ a ∧ j = .int .i64 i ∧ h = .int .i64 (1 + ((st.drop r).take i).foldl max 0)) (fun _ j => a - (intOf j).toNat)
            case atStart => exact ⟨0, by omega, rfl, by simp⟩
            case round =>
              obtain ⟨i, hia, rfl, rfl⟩ := hrel
              have hfb := fold_bd HSO.out r i
              by_cases hi2 : i < a
              · rcases (show False ∨ True from by first | (left; omega) | (right; trivial)) with hf | _
                · exact hf.elim
                rcases HII.out with e | ⟨x, rfl, _, _, hac⟩
                · rw [e] at hr2; simp at hr2; omega
                have hcell := hac (r + i) (by omega)
                rw [← Go.Deep.add_add] at hcell
                have hx := stk_get HSO.out (r + i) (by omega)
                have HF := hide (fold_succ st r i (by omega))
                clear hac
                generalize st.getD (r + i) 0 = z at *
                generalize ((st.drop r).take i).foldl max 0 = y at *
                go_wp2
                all_goals
                  go_round
                  case rel => exact ⟨i + 1, by omega, by go_num, by rw [HF.out]⟩
                  case measure => simp [intOf]; omega
              · obtain rfl : i = a := by omega
                rw [HT.out] at HST HV2
                clear HT
                generalize ((st.drop r).take i).foldl max 0 = y at *
                have hto := own_take (r := r) HOwn.out (by omega)
                by_cases h64 : 64 < 1 + y
                · have HE := hide (HV2.out h64)
                  go_wp2
                  go_ret
                  exact ⟨by rw [HE.out]; rfl, hby⟩
                · have HE := hide (HST.out (by omega))
                  have hlen : (st.take r ++ [1 + y]).length = r + 1 := by simp; omega
                  have hvals : intVs (st.take r ++ [1 + y]) = (intVs st).take r ++ [.int .i64 (1 + y)] := by simp [intVs, List.map_take]
                  have HLV := hide (And.intro hlen hvals)
                  have HTo := hide hto
                  clear hlen hvals hto
                  go_wp2_with (at_builtin; refine wpList_append_own _ rfl _ _ 28 rfl w.heap.size 3 i0 _ 1 8 Tryz.underlying28 hi hz0 hz1 hz2 rfl (by decide) _ _ _ rfl (HTo.out.alloc _) ⟨w1.heap.size, 0, none⟩ 1 1 [.int .i64 (1 + y)] rfl rfl (by exact cells_1 (heap_alloc_new _ _)) (by simp [Value.oneCell']) (by unfold maxLen; omega) (by omega) (by simp; omega) ?_; intro v' w3 hown3 hgrow _)
                  obtain ⟨A3, c3, rfl⟩ := own_form hown3
                  obtain ⟨hlen, hvals⟩ := HLV.out
                  have hb3 : Below w.heap.size w w3 := (hby.alloc (by omega) _).grown hgrow (by first | (simp; done) | (simp; omega)) (fun k hk => (HTo.out.lt k hk).1)
                  have HO := hide (show w3.ownsRow w.heap.size 3 1 (.slice A3 (st.take r ++ [1 + y]).length c3) (st.take r ++ [1 + y]).length (intVs (st.take r ++ [1 + y])) from by rw [hlen, hvals]; exact hown3)
                  have HL := hide hlen.symm
                  clear hown3 hgrow hvals hlen
                  exact ⟨⟨k + 1, _, A3, c3, by rw [← HL.out], by go_num, by omega, HE, HO.out, hb3⟩, by simp [intOf]; omega⟩
    · obtain rfl : k = es.length := by omega
      have HE := hide (valid_end H256.out HR.out)
      by_cases h1 : st.length = 1
      · have hb1 : ((st.length : Int) != 1) = false := by simp; omega
        rw [if_pos h1] at HE
        go_wp2
        go_ret
        exact ⟨by rw [HE.out]; rfl, hbel⟩
      · have hb1 : ((st.length : Int) != 1) = true := by simp; omega
        rw [if_neg h1] at HE
        go_wp2
        go_ret
        exact ⟨by rw [HE.out]; rfl, hbel⟩
end Go.Proofs.YtmbeeefkpgfgmaaGreatDoor
namespace Go.Proofs.YtmbeeefkpgfgmaaGreatDoor
open Go.RowKit
theorem mask_1 (i : Int) : bits .and .i64 i 1 = i % 2 := by
  show IntKind.i64.wrap ((BitVec.ofInt 64 i &&& BitVec.ofInt 64 1).toNat : Int) = _
  have h : (BitVec.ofInt 64 (1 : Int)).toNat = 2 ^ 1 - 1 := by decide
  rw [BitVec.toNat_and, h, Nat.and_two_pow_sub_one_eq_mod, IntKind.wrap_i64]
  simp only [BitVec.toNat_ofInt]
  omega
theorem mask_3 (i : Int) : bits .and .i64 i 3 = i % 4 := by
  show IntKind.i64.wrap ((BitVec.ofInt 64 i &&& BitVec.ofInt 64 3).toNat : Int) = _
  have h : (BitVec.ofInt 64 (3 : Int)).toNat = 2 ^ 2 - 1 := by decide
  rw [BitVec.toNat_and, h, Nat.and_two_pow_sub_one_eq_mod, IntKind.wrap_i64]
  simp only [BitVec.toNat_ofInt]
  omega
theorem mask_7 (i : Int) : bits .and .i64 i 7 = i % 8 := by
  show IntKind.i64.wrap ((BitVec.ofInt 64 i &&& BitVec.ofInt 64 7).toNat : Int) = _
  have h : (BitVec.ofInt 64 (7 : Int)).toNat = 2 ^ 3 - 1 := by decide
  rw [BitVec.toNat_and, h, Nat.and_two_pow_sub_one_eq_mod, IntKind.wrap_i64]
  simp only [BitVec.toNat_ofInt]
  omega
theorem mask_15 (i : Int) : bits .and .i64 i 15 = i % 16 := by
  show IntKind.i64.wrap ((BitVec.ofInt 64 i &&& BitVec.ofInt 64 15).toNat : Int) = _
  have h : (BitVec.ofInt 64 (15 : Int)).toNat = 2 ^ 4 - 1 := by decide
  rw [BitVec.toNat_and, h, Nat.and_two_pow_sub_one_eq_mod, IntKind.wrap_i64]
  simp only [BitVec.toNat_ofInt]
  omega
theorem mask_31 (i : Int) : bits .and .i64 i 31 = i % 32 := by
  show IntKind.i64.wrap ((BitVec.ofInt 64 i &&& BitVec.ofInt 64 31).toNat : Int) = _
  have h : (BitVec.ofInt 64 (31 : Int)).toNat = 2 ^ 5 - 1 := by decide
  rw [BitVec.toNat_and, h, Nat.and_two_pow_sub_one_eq_mod, IntKind.wrap_i64]
  simp only [BitVec.toNat_ofInt]
  omega
theorem box3set' {w : World} {B : Nat} {x y z : Value} (h0 : w.cell? ⟨B, 0, none⟩ = some x) (h1 : w.cell? ⟨B, 1, none⟩ = some y) (h2 : w.cell? ⟨B, 2, none⟩ = some z) (a b c : Value) :
    (w.setCell ⟨B, 0, none⟩ a).cell? ⟨B, 0, none⟩ = some a ∧ ((w.setCell ⟨B, 0, none⟩ a).setCell ⟨B, 1, none⟩ b).cell? ⟨B, 1, none⟩ = some b ∧ (((w.setCell ⟨B, 0, none⟩ a).setCell ⟨B, 1, none⟩ b).setCell ⟨B, 2, none⟩ c).cell? ⟨B, 2, none⟩ = some c := by
  refine ⟨World.cell?_setCell_same _ _ _ h0, World.cell?_setCell_same (u := y) _ _ _ ?_, World.cell?_setCell_same (u := z) _ _ _ ?_⟩
  · rw [World.cell?_setCell_other _ _ _ _ (by simp)]; exact h1
  · rw [World.cell?_setCell_other _ _ _ _ (by simp), World.cell?_setCell_other _ _ _ _ (by simp)]; exact h2
def OwnNds (w w' : World) (es : List Nd) (e : Ending) : Prop :=
  ∃ (A : Option Addr) (c : Nat), e = .returned (.slice A es.length c) ∧ w'.ownsRow w.heap.size 116 6 (.slice A es.length c) es.length (ndCells es)
theorem own_fresh (w : World) {base e size n : Nat} {cur : Array Value} (hb : base ≤ w.heap.size) (hs : cur.size = n * size) (hm : n ≤ maxLen) :
    (w.alloc (.cells cur e)).ownsRow base e size (.slice (some ⟨w.heap.size, 0, none⟩) n n) n cur.toList :=
  ⟨by simpa using hs, .inr ⟨w.heap.size, n, cur, rfl, hb, heap_alloc_new w _, Nat.le_refl _, hm, hs, by rw [List.take_of_length_le (by simp [hs])]⟩⟩
theorem base_constant_any (v : Vl) (w : World) : Calls Tryz.prog 258 #[v.agg] w fun e w' => OwnNds w w' [⟨0, v, [], 0⟩] e ∧ Below w.heap.size w w' := by
  have HO := hide (own_fresh (w.alloc (.cells #[.int .i64 v.kind, .int .i64 v.num, str v.text] 114)) (base := w.heap.size) (e := 116) (size := 6) (n := 1) (cur := #[.int .i64 0, .int .i64 v.kind, .int .i64 v.num, str v.text, str [], .int .i64 0]) (by simp) (by simp) (by decide))
  go_enter Tryz.func258, Tryz.ntmps258
  go_wp2
  go_ret
  refine ⟨⟨_, 1, by first | rfl | (simp; done), HO.out⟩, by (repeat (first | exact Below.refl _ _ | assumption | refine Below.drew ?_ | refine below_drewN ?_ _ | refine Below.alloc ?_ (by first | omega | simp <;> omega) _ | refine Below.setCell ?_ (by first | omega | simp <;> omega) _))⟩
structure Col where
  name : Bytes
  kind : Int
  null : Bool
def ColAt (w : World) (g off : Nat) (c : Col) : Prop := w.cell? ⟨g, off, none⟩ = some (str c.name) ∧ w.cell? ⟨g, off + 1, none⟩ = some (.int .i64 c.kind) ∧ w.cell? ⟨g, off + 2, none⟩ = some (.bool c.null)
def ColsAt (w : World) (A : Option Addr) (cs : List Col) : Prop :=
  cs = [] ∨ ∃ g off, A = some ⟨g, off, none⟩ ∧ g < w.heap.size ∧ ∀ i (h : i < cs.length), ColAt w g (off + i * 3) cs[i]
theorem ColsAt.below {w w' : World} {A : Option Addr} {cs : List Col} (h : ColsAt w A cs) (hb : Below w.heap.size w w') : ColsAt w' A cs := by
  rcases h with h | ⟨g, off, hA, hg, hc⟩
  · exact .inl h
  · refine .inr ⟨g, off, hA, Nat.lt_of_lt_of_le hg hb.size, fun i hi => ?_⟩
    obtain ⟨h1, h2, h3⟩ := hc i hi
    exact ⟨(hb.cell (p := ⟨g, _, none⟩) hg).trans h1, (hb.cell (p := ⟨g, _, none⟩) hg).trans h2, (hb.cell (p := ⟨g, _, none⟩) hg).trans h3⟩
def colNm (cs : List Col) : List Bytes := cs.map Col.name
def ColsOk (cs : List Col) : Prop := ∀ c ∈ cs, isNameB 24 c.name = true ∧ resB c.name = false
theorem own_low {w : World} {base b2 e size n : Nat} {v : Value} {xs : List Value} (h : w.ownsRow base e size v n xs) (hb : b2 ≤ base) : w.ownsRow b2 e size v n xs :=
  ⟨h.1, h.2.elim .inl fun ⟨g, cap, cur, a, b, r⟩ => .inr ⟨g, cap, cur, a, Nat.le_trans hb b, r⟩⟩
theorem const_ok {v : Vl} (h : validV v.kind v.num v.text = true) : (⟨0, v, [], 0⟩ : Nd).ok = true := by
  show shapedN 0 v.kind v.num v.text [] 0 = true
  rw [shapedN_0, h]; rfl
theorem col_ok {cs : List Col} (h : ColsOk cs) {c : Col} (hc : c ∈ cs) : (⟨1, vl0, c.name, 0⟩ : Nd).ok = true := by
  obtain ⟨h1, h2⟩ := h c hc
  show shapedN 1 0 0 [] c.name 0 = true
  rw [shapedN_1, h1, h2]; rfl
end Go.Proofs.YtmbeeefkpgfgmaaGreatDoor

namespace Go.Proofs.YtmbeeefkpgfgmaaGreatDoor
open Go.RowKit
theorem Tryz.info_nd : (Tryz.prog.info? 116).map (fun i => (i.zero, i.size, i.bytes)) = some (some (.agg #[.int .i64 0, .int .i64 0, .int .i64 0, .string ⟨#[]⟩, .string ⟨#[]⟩, .int .i64 0]), 6, 64) := by kernel_rfl
theorem nd_one : ∀ (es : List Nd), ∀ u ∈ ndCells es, u.oneCell' = true
  | [], u, h => by cases h
  | n :: es, u, h => by
    rw [show ndCells (n :: es) = n.cells ++ ndCells es from rfl] at h
    rcases List.mem_append.1 h with h | h
    · simp [Nd.cells] at h
      rcases h with rfl | rfl | rfl | rfl | rfl | rfl <;> rfl
    · exact nd_one es u h
theorem cells_6 {W : World} {B : Nat} {a b c d e f : Value} {t : TypeId} (h : W.heap[B]? = some (.cells #[a, b, c, d, e, f] t)) : ∀ (j : Nat) (u : Value), [a, b, c, d, e, f][j]? = some u → W.cell? ((⟨B, 0, none⟩ : Addr).add j) = some u := by
  intro j u hu
  have e : (⟨B, 0, none⟩ : Addr).add j = ⟨B, j, none⟩ := by unfold Addr.add; split <;> simp_all
  rw [e, cell_of_heap h]
  simpa using hu
structure Opd where
  A : Option Addr
  es : List Nd
  c : Nat
def OpsAt (w : World) (g off : Nat) (os : List Opd) : Prop := g < w.heap.size ∧ ∀ i (h : i < os.length), w.cell? ⟨g, off + i, none⟩ = some (.slice os[i].A os[i].es.length os[i].c) ∧ NdsAt w os[i].A os[i].es ∧ os[i].es ≠ [] ∧ os[i].es.length ≤ 10000
theorem OpsAt.below {w w' : World} {g off : Nat} {os : List Opd} (h : OpsAt w g off os) (hb : Below w.heap.size w w') : OpsAt w' g off os :=
  ⟨Nat.lt_of_lt_of_le h.1 hb.size, fun i hi => by
    obtain ⟨h1, h2, h3, h4⟩ := h.2 i hi
    exact ⟨(hb.cell (p := ⟨g, _, none⟩) h.1).trans h1, h2.below hb, h3, h4⟩⟩
def flatO (os : List Opd) : List Nd := os.flatMap Opd.es
theorem flatO_succ {os : List Opd} {k : Nat} (h : k < os.length) : flatO (os.take (k + 1)) = flatO (os.take k) ++ os[k].es := by
  unfold flatO; rw [List.take_succ_eq_append_getElem h, List.flatMap_append]; simp
theorem ndCells_append (a b : List Nd) : ndCells (a ++ b) = ndCells a ++ ndCells b := by simp [ndCells]
theorem flatO_len {w : World} {g off : Nat} {os : List Opd} (h : OpsAt w g off os) : ∀ k, k ≤ os.length → (flatO (os.take k)).length ≤ k * 10000
  | 0, _ => by simp [flatO]
  | k + 1, hk => by
    have ih := flatO_len h k (by omega)
    have := (h.2 k (by omega)).2.2.2
    rw [flatO_succ (by omega), List.length_append]; omega
set_option maxRecDepth 100000 in
set_option maxHeartbeats 2000000 in
theorem base_apply_any (op : Int) (g off cc : Nat) (os : List Opd) (w : World) (h : OpsAt w g off os) (hl : os.length ≤ 10) :
    Calls Tryz.prog 218 #[.int .i64 op, .slice (some ⟨g, off, none⟩) os.length cc] w fun e w' => OwnNds w w' (flatO os ++ [⟨op, vl0, [], 0⟩]) e ∧ Below w.heap.size w w' := by
  have HA := hide h
  clear h
  obtain ⟨i0, hi, hz0, hz1, hz2⟩ := info_parts Tryz.info_nd
  go_enter Tryz.func218, Tryz.ntmps218
  go_wp2
  go_loopw [5, 6] (fun s i wr => ∃ (k : Nat) (A : Option Addr) (c : Nat), s = .slice A (flatO (os.take k)).length c ∧ i = .int .i64 k ∧ k ≤ os.length ∧
      wr.ownsRow w.heap.size 116 6 (.slice A (flatO (os.take k)).length c) (flatO (os.take k)).length (ndCells (flatO (os.take k))) ∧ Below w.heap.size w wr) (fun _ i _ => os.length - (intOf i).toNat)
  case atStart => exact ⟨0, none, 0, rfl, rfl, by omega, own_nil _ _ _ _, Below.refl _ _⟩
  case round =>
    obtain ⟨k, A, c, rfl, rfl, hk, hown, hbel⟩ := hrel
    have hsz := hbel.size
    have hfl := flatO_len HA.out k hk
    by_cases hlt : k < os.length
    · obtain ⟨hg, hcs⟩ := HA.out.below hbel
      obtain ⟨c0, hN, hne, hln⟩ := hcs k hlt
      have HT := hide (flatO_succ hlt)
      clear hcs
      generalize os[k] = o at *
      rcases hN with e | ⟨gn, on, ho, hgn, hcn⟩
      · exact absurd e hne
      have HC := hide (show ∀ j u, (ndCells o.es)[j]? = some u → wr.cell? ((⟨gn, on, none⟩ : Addr).add j) = some u from fun j u hu => by
        have e : (⟨gn, on, none⟩ : Addr).add j = ⟨gn, on + j, none⟩ := by cases j <;> simp [Addr.add]
        rw [e]; exact hcn j u hu)
      rw [ho] at c0
      clear hcn hne ho
      have HO := hide hown
      clear hown
      generalize hF : flatO (os.take k) = fl at *
      clear hF
      go_wp2_with (at_builtin; refine wpList_append_own _ rfl _ _ 25 rfl w.heap.size 116 i0 _ 6 64 Tryz.underlying25 hi hz0 hz1 hz2 rfl (by decide) _ _ _ rfl HO.out ⟨gn, on, none⟩ o.es.length o.c (ndCells o.es) rfl (ndCells_len _) HC.out (nd_one _) (by unfold maxLen; omega) (by omega) (by omega) ?_; intro v' w3 hown3 hgrow _)
      obtain ⟨A3, c3, rfl⟩ := own_form hown3
      have hb3 : Below w.heap.size w w3 := hbel.grown hgrow (by omega) (fun k hk => (HO.out.lt k hk).1)
      rw [← ndCells_append, ← List.length_append] at hown3
      rw [← List.length_append]
      exact ⟨⟨k + 1, A3, c3, by rw [HT.out], by go_num, by omega, by rw [HT.out]; exact hown3, hb3⟩, by simp [intOf]; omega⟩
    · obtain rfl : k = os.length := by omega
      rw [List.take_length] at hown hfl ⊢
      have HO := hide hown
      clear hown
      generalize hF : flatO os = fl at *
      go_wp2_with (at_builtin; refine wpList_append_own _ rfl _ _ 25 rfl w.heap.size 116 i0 _ 6 64 Tryz.underlying25 hi hz0 hz1 hz2 rfl (by decide) _ _ _ rfl (HO.out.alloc _) ⟨wr.heap.size, 0, none⟩ 1 1 [.int .i64 op, .int .i64 0, .int .i64 0, str [], str [], .int .i64 0] rfl rfl (by exact cells_6 (heap_alloc_new _ _)) (by simp [Value.oneCell']) (by unfold maxLen; omega) (by omega) (by simp; omega) ?_; intro v' w3 hown3 hgrow _)
      obtain ⟨A3, c3, rfl⟩ := own_form hown3
      have hb3 : Below w.heap.size w w3 := (hbel.alloc (by omega) _).grown hgrow (by simp; omega) (fun k hk => (HO.out.lt k hk).1)
      go_ret
      subst hF
      exact ⟨⟨A3, c3, by simp, by rw [ndCells_append, List.length_append]; exact hown3⟩, hb3⟩
end Go.Proofs.YtmbeeefkpgfgmaaGreatDoor

namespace Go.Proofs.YtmbeeefkpgfgmaaGreatDoor
open Go.RowKit
theorem valid_run {es : List Nd} (h : validE es = 0) (k : Nat) : ∃ st, RunRel es k st := by
  unfold RunRel
  cases hr : runE (es.take k) [] with
  | ok st => exact ⟨st, rfl⟩
  | error x =>
    have h1 := runE_fails hr
    have h2 := runE_err _ _ _ hr
    unfold validE at h
    split at h
    · omega
    · rw [h1] at h
      have h3 : x = 0 := h
      omega
theorem valid_step {es : List Nd} {k : Nat} {st : List Int} (h : validE es = 0) (hk : k < es.length) (hr : RunRel es k st) :
    ∃ a : Nat, es[k].ar = a ∧ a ≤ 8 ∧ a ≤ st.length ∧ ∃ st', RunRel es (k + 1) st' ∧ st'.length = st.length - a + 1 := by
  obtain ⟨st', h'⟩ := valid_run h (k + 1)
  have h2 := h'
  unfold RunRel at h2
  rw [runE_take hr hk] at h2
  obtain ⟨h3, h4, h5, h6⟩ := stepE_ok h2
  obtain ⟨a0, a8⟩ := shaped_ar h3
  refine ⟨es[k].ar.toNat, by omega, by omega, by omega, st', h', ?_⟩
  rw [h6, List.length_append, List.length_take, List.length_singleton]; omega
theorem valid_last {es : List Nd} {st : List Int} (h : validE es = 0) (hr : RunRel es es.length st) : st.length = 1 := by
  unfold validE at h
  split at h
  · omega
  · rename_i h256
    unfold RunRel at hr
    rw [List.take_length] at hr
    rw [hr] at h
    have h3 : (if st.length = 1 then (0 : Int) else 8) = 0 := h
    split at h3
    · assumption
    · omega
theorem valid_le {es : List Nd} (h : validE es = 0) : es.length ≤ 256 := by
  unfold validE at h
  split at h <;> omega
theorem heap_new_at {W : World} {o : Obj} {B : Nat} (h : W.heap.size = B) : (W.alloc o).heap[B]? = some o := by subst h; exact heap_alloc_new W o
theorem own_cells {w : World} {base e size n c : Nat} {A : Option Addr} {xs : List Value} (h : w.ownsRow base e size (.slice A n c) n xs) : ∀ b, A = some b → ∀ j u, xs[j]? = some u → w.cell? (b.add j) = some u := by
  intro b hb j u hu
  subst hb
  rcases h.2 with ⟨hv, hn⟩ | ⟨g, cap, cur, hv, hg, hh, hnc, hcap, hsz, htk⟩
  · injection hv with h1 h2 h3
    cases h1
  · injection hv with h1 h2 h3
    injection h1 with h1
    subst h1 h3
    have hj : j < n * size := by
      rcases Nat.lt_or_ge j xs.length with h5 | h5
      · rw [h.1] at h5; exact h5
      · rw [List.getElem?_eq_none h5] at hu; cases hu
    have e : (⟨g, 0, none⟩ : Addr).add j = ⟨g, j, none⟩ := by unfold Addr.add; split <;> simp_all
    rw [e, World.ownsRow.cellAt h j hj, hu]
theorem own_cap {w : World} {base e size n c : Nat} {A : Option Addr} {xs : List Value} (h : w.ownsRow base e size (.slice A n c) n xs) : n ≤ c ∧ c ≤ maxLen ∧ (A = none → n = 0 ∧ c = 0) := by
  rcases h.2 with ⟨hv, hn⟩ | ⟨g, cap, cur, hv, hg, hh, hnc, hcap, hsz, htk⟩
  · injection hv with h1 h2 h3
    subst h3
    exact ⟨by omega, Nat.zero_le _, fun _ => ⟨hn, rfl⟩⟩
  · injection hv with h1 h2 h3
    subst h1 h3
    exact ⟨hnc, hcap, fun e => by cases e⟩
theorem take_some {α : Type} {xs : List α} {m j : Nat} {u : α} (h : (xs.take m)[j]? = some u) : xs[j]? = some u := by
  rw [List.getElem?_take] at h
  split at h
  · exact h
  · cases h
theorem nm_len {m : Nat} {l : Bytes} (h : isNameB m l = true) : l.length ≤ m := by
  unfold isNameB at h
  simp at h
  exact h.1
theorem qual_len {l : Bytes} (h : isQualB 24 l = true) : l.length ≤ 49 := by
  unfold isQualB at h
  split at h
  · simp at h
    have h1 := nm_len h.1
    have h2 := nm_len h.2
    rw [List.length_take] at h1
    rw [List.length_drop] at h2
    omega
  · have := nm_len h; omega
theorem ok_name {n : Nd} (h : n.ok = true) : n.name.length ≤ 49 := by
  obtain ⟨op, ⟨k, m, x⟩, nm, a⟩ := n
  have h : shapedN op k m x nm a = true := h
  show nm.length ≤ 49
  unfold shapedN at h
  repeat' split at h
  all_goals simp only [Bool.and_eq_true] at h
  · have := h.1.2; simp at this; simp [this]
  · have := nm_len h.2.1.2
    omega
  · exact qual_len h.2.1.2
  · exact qual_len h.2.1.1.1.1
  · have := h.2.1.2; simp at this; simp [this]
theorem bodyPost_ex {P : Program} {fn : Func} {R : Ending → World → Prop} {a : Act} {w : World} (hd : a.defers = []) (h : ∃ v, (results fn a.tmps).run P w = .ok v w ∧ R (.returned v) w) : bodyPost P fn R .ret a w :=
  let ⟨_, h1, h2⟩ := h; bodyPost_ret h1 hd h2
end Go.Proofs.YtmbeeefkpgfgmaaGreatDoor
