/- Values and leaves, told (base.Moment, base.Value, base.leaf). -/
import Derived.Test.YtmbeeefkpgfgmaaGreatDoorPq06
import Derived.Test.YtmbeeefkpgfgmaaGreatDoorPq07
set_option linter.unusedVariables false
set_option linter.unusedSimpArgs false
namespace Go.Proofs.YtmbeeefkpgfgmaaGreatDoor
open Go.RowKit
def momS (n : Int) : Int := if n % 65536 / 256 % 16 = 0 then (match (n % 65536 % 6).toNat with
  | 0 => 0
  | 1 => 1
  | 2 => 575999999
  | 3 => 575999998
  | 4 => 1439
  | _ => 1440) else 144000 + n % 65536 / 8 % 4 * 1440 + n % 65536 % 7 * 200 + n % 65536 / 32 % 2 * 1439 - 600
theorem mom_six (n : Int) (h : n % 65536 / 256 % 16 = 0) : [Value.int .i64 0, Value.int .i64 1, Value.int .i64 575999999, Value.int .i64 575999998, Value.int .i64 1439, Value.int .i64 1440][(n % 65536 % 6).toNat]? = some (.int .i64 (momS n)) := by
  unfold momS
  rw [if_pos h]
  have hm : (n % 65536 % 6).toNat < 6 := by omega
  generalize (n % 65536 % 6).toNat = m at *
  match m, hm with
  | 0, _ => rfl
  | 1, _ => rfl
  | 2, _ => rfl
  | 3, _ => rfl
  | 4, _ => rfl
  | 5, _ => rfl
theorem mom_bd (n : Int) : 0 ≤ momS n ∧ momS n ≤ 575999999 := by
  unfold momS
  split
  · split <;> decide
  · omega
set_option maxHeartbeats 1000000 in
theorem base_Moment_s (n : Int) (w : World) : Calls Tryz.prog 229 #[.int .i64 n] w fun e w' => e = .returned (.int .i64 (momS n)) ∧ Below w.heap.size w w' := by
  have hm := and_ffff n
  have h1 := mask_1
  have h3 := mask_3
  have h15 := mask_15
  by_cases hq : n % 65536 / 256 % 16 = 0
  · have hx := mom_six n hq
    generalize momS n = x at *
    have hb : (n % 65536 / 256 % 16 == 0) = true := by rw [hq]; rfl
    go_enter Tryz.func229, Tryz.ntmps229
    go_wp2
    go_ret
    exact ⟨rfl, zX⟩
  · have hb : (n % 65536 / 256 % 16 == 0) = false := beq_eq_false_iff_ne.2 hq
    have HE := hide (show momS n = 144000 + n % 65536 / 8 % 4 * 1440 + n % 65536 % 7 * 200 + n % 65536 / 32 % 2 * 1439 - 600 from if_neg hq)
    go_enter Tryz.func229, Tryz.ntmps229
    go_wp2
    go_ret
    exact ⟨by rw [HE.out]; rfl, zX⟩
def sixS (m : Nat) : Bytes := match m with
  | 0 => [97]
  | 1 => [98]
  | 2 => [99]
  | 3 => []
  | 4 => [105, 116, 39, 115]
  | _ => [97, 32, 98]
theorem sixS_at {m : Nat} (h : m < 6) : [Value.string ⟨#[97]⟩, Value.string ⟨#[98]⟩, Value.string ⟨#[99]⟩, Value.string ⟨#[]⟩, Value.string ⟨#[105, 116, 39, 115]⟩, Value.string ⟨#[97, 32, 98]⟩][m]? = some (str (sixS m)) ∧ (sixS m).length ≤ 4 := by
  match m, h with
  | 0, _ => exact ⟨rfl, by decide⟩
  | 1, _ => exact ⟨rfl, by decide⟩
  | 2, _ => exact ⟨rfl, by decide⟩
  | 3, _ => exact ⟨rfl, by decide⟩
  | 4, _ => exact ⟨rfl, by decide⟩
  | 5, _ => exact ⟨rfl, by decide⟩
def valD (k n : Int) : Vl :=
  if k = 1 then ⟨1, n % 2, []⟩
  else if k = 2 then (if n % 65536 / 256 % 32 = 0 then ⟨2, 1073741824 - n % 2, []⟩ else if n % 65536 / 256 % 32 = 1 then ⟨2, n % 4 - 1073741824, []⟩ else ⟨2, n % 65536 % 7 - 2, []⟩)
  else if k = 3 then ⟨3, 0, sixS (n % 65536 % 6).toNat⟩
  else if k = 4 then ⟨4, momS (n % 65536), []⟩
  else ⟨0, 0, []⟩
theorem valD_ok (k n : Int) : validV (valD k n).kind (valD k n).num (valD k n).text = true := by
  have hs := (sixS_at (m := (n % 65536 % 6).toNat) (by omega)).2
  have hm := mom_bd (n % 65536)
  unfold valD
  generalize sixS (n % 65536 % 6).toNat = x at *
  generalize momS (n % 65536) = t at *
  repeat' split
  all_goals
    unfold validV
    simp
    try omega
set_option maxRecDepth 100000 in
set_option maxHeartbeats 2000000 in
theorem base_Value_s (k n : Int) (w : World) : Calls Tryz.prog 157 #[.int .i64 k, .int .i64 n] w fun e w' => e = .returned (valD k n).agg ∧ Below w.heap.size w w' := by
  have hm := and_ffff n
  have h1 := mask_1
  have h3 := mask_3
  have h31 := mask_31
  obtain ⟨hx, x0⟩ := sixS_at (m := (n % 65536 % 6).toNat) (by omega)
  have HV := hide (show valD k n = _ from rfl)
  have HM := hide (fun W => base_Moment_s (n % 65536) W)
  generalize hsx : sixS (n % 65536 % 6).toNat = x at *
  have HSX := hide hsx
  clear hsx
  generalize hst : momS (n % 65536) = t at *
  have HST := hide hst
  clear hst
  go_enter Tryz.func157, Tryz.ntmps157
  go_wp2_with (go_at_call 229; refine (HM.out _).mono ?_; rintro e w1 ⟨rfl, hb1⟩; have hh := heap_of_below (B := w.heap.size + 1) (by simpa using hb1) (Nat.lt_succ_self _); have r0 : w1.cell? ⟨w.heap.size, 0, none⟩ = some (.int .i64 0) := (by rw [cell_of_heap hh]; rfl); have r1 : w1.cell? ⟨w.heap.size, 1, none⟩ = some (.int .i64 0) := (by rw [cell_of_heap hh]; rfl); have r2 : w1.cell? ⟨w.heap.size, 2, none⟩ = some (str []) := (by rw [cell_of_heap hh]; rfl); have fr : ∀ i, w1.frozen? ⟨w.heap.size, i, none⟩ = false := (fun i => free_of_heap hh i); have hb2 : Below w.heap.size w w1 := Below.trans zX (hb1.mono (by simp)); clear hb1 hh)
  · refine bodyPost_ret (v := (⟨1, n % 2, []⟩ : Vl).agg) (by simp [results, Tryz.results157, go_sem]) rfl ⟨by congr 2; simp_all [valD], zX⟩
  · refine bodyPost_ret (v := (⟨2, 1073741824 - n % 2, []⟩ : Vl).agg) (by simp [results, Tryz.results157, go_sem]) rfl ⟨by congr 2; simp_all [valD], zX⟩
  · refine bodyPost_ret (v := (⟨2, n % 4 - 1073741824, []⟩ : Vl).agg) (by simp [results, Tryz.results157, go_sem]) rfl ⟨by congr 2; simp_all [valD], zX⟩
  · refine bodyPost_ret (v := (⟨2, n % 65536 % 7 - 2, []⟩ : Vl).agg) (by simp [results, Tryz.results157, go_sem]) rfl ⟨by congr 2; simp_all [valD], zX⟩
  · refine bodyPost_ret (v := (⟨3, 0, x⟩ : Vl).agg) (by simp [results, Tryz.results157, go_sem]) rfl ⟨by have := HSX.out; congr 2; simp_all [valD], zX⟩
  · obtain ⟨s0, s1, s2⟩ := box3set' r0 r1 r2 (.int .i64 4) (.int .i64 t) (.string ⟨#[]⟩)
    refine bodyPost_ret (v := (⟨4, t, []⟩ : Vl).agg) (by simp [results, Tryz.results157, go_sem, s0, s1, s2]) rfl ⟨by have := HST.out; congr 2; simp_all [valD], zX⟩
  · refine bodyPost_ret (v := (⟨0, 0, []⟩ : Vl).agg) (by simp [results, Tryz.results157, go_sem]) rfl ⟨by congr 2; simp_all [valD], zX⟩
def LeafTold (k n : Int) (cs : List Col) : Prop := ∃ m : Nd, m.ok = true ∧ m.ar = 0 ∧ (m.op = 1 → m.name ∈ colNm cs) ∧ ∀ (A : Option Addr) (cc : Nat) (w : World), ColsAt w A cs →
    Calls Tryz.prog 217 #[.int .i64 k, .slice A cs.length cc, .int .i64 n] w fun e w' => OwnNds w w' [m] e ∧ Below w.heap.size w w'
def kdIs (cs : List Col) (k n : Int) (j : Nat) : Bool := match cs[((n / 4 + (j : Int)) % (cs.length : Int)).toNat]? with
  | some c => c.kind == k
  | none => false
set_option maxRecDepth 100000 in
set_option maxHeartbeats 2000000 in
theorem leaf_const (k n : Int) (cs : List Col) (hl : cs.length ≤ 1000) (h0 : 0 ≤ n) (h1 : n ≤ 1000000000000) (hno : 0 < n % 4 → ∀ j, j < cs.length → kdIs cs k n j = false) : LeafTold k n cs := by
  by_cases h16 : n % 16 = 0
  · refine ⟨⟨0, vl0, [], 0⟩, const_ok (v := vl0) rfl, rfl, (fun e => by cases e), fun A cc w h => ?_⟩
    have HA := hide h
    have HN := hide hno
    clear h hno
    go_enter Tryz.func217, Tryz.ntmps217
    go_wp2
    go_loopw [7] (fun i wr => ∃ j : Nat, j ≤ cs.length ∧ i = .int .i64 j ∧ Below w.heap.size w wr) (fun i _ => cs.length - (intOf i).toNat)
    case atStart => exact ⟨0, by omega, rfl, Below.refl _ _⟩
    case round =>
      obtain ⟨j, hj, rfl, hbel⟩ := hrel
      have hsz := hbel.size
      by_cases hlt : j < cs.length ∧ 0 < n % 4
      · exfalso; omega
      · by_cases hj2 : j < cs.length
        · have hn : ¬ 0 < n % 4 := fun h => hlt ⟨hj2, h⟩
          clear hlt
          go_wp2_with fail
          refine (base_constant_any vl0 _).mono ?_
          rintro e w1 ⟨⟨A1, c1, rfl, hown⟩, hb1⟩
          go_wp2
          go_ret
          exact ⟨⟨A1, c1, rfl, own_low hown hsz⟩, bel2 hb1 hbel⟩
        · clear hlt
          go_wp2_with fail
          refine (base_constant_any vl0 _).mono ?_
          rintro e w1 ⟨⟨A1, c1, rfl, hown⟩, hb1⟩
          go_wp2
          go_ret
          exact ⟨⟨A1, c1, rfl, own_low hown hsz⟩, bel2 hb1 hbel⟩
  · refine ⟨⟨0, valD k (n / 16), [], 0⟩, const_ok (valD_ok _ _), rfl, (fun e => by cases e), fun A cc w h => ?_⟩
    have HA := hide h
    have HN := hide hno
    have HV := hide (fun W => base_Value_s k (n / 16) W)
    generalize valD k (n / 16) = v at *
    have h16b : (n % 16 == 0) = false := beq_eq_false_iff_ne.2 h16
    clear h hno
    go_enter Tryz.func217, Tryz.ntmps217
    go_wp2
    go_loopw [7] (fun i wr => ∃ j : Nat, j ≤ cs.length ∧ i = .int .i64 j ∧ Below w.heap.size w wr) (fun i _ => cs.length - (intOf i).toNat)
    case atStart => exact ⟨0, by omega, rfl, Below.refl _ _⟩
    case round =>
      obtain ⟨j, hj, rfl, hbel⟩ := hrel
      have hsz := hbel.size
      by_cases hlt : j < cs.length ∧ 0 < n % 4
      · obtain ⟨hlt, hn⟩ := hlt
        rcases HA.out.below hbel with e | ⟨g, off, rfl, hg, hc⟩
        · exact absurd hlt (by rw [e]; simp)
        have y0 : 0 ≤ (n / 4 + (j : Int)) % (cs.length : Int) := Int.emod_nonneg _ (by omega)
        have y1 : (n / 4 + (j : Int)) % (cs.length : Int) < (cs.length : Int) := Int.emod_lt_of_pos _ (by omega)
        obtain ⟨m, hm⟩ : ∃ m : Nat, (n / 4 + (j : Int)) % (cs.length : Int) = m := ⟨((n / 4 + (j : Int)) % (cs.length : Int)).toNat, by omega⟩
        have hml : m < cs.length := by omega
        have hcol := hc m hml
        have hkd := HN.out hn j hlt
        unfold kdIs at hkd
        rw [hm, show ((m : Int)).toNat = m from by omega, List.getElem?_eq_getElem hml] at hkd
        simp only at hkd
        clear hc y0 y1
        generalize cs[m] = x at *
        obtain ⟨c0, c1, c2⟩ := hcol
        have hz : ((cs.length : Int) == 0) = false := beq_eq_false_iff_ne.2 (by omega)
        go_wp2
        exact ⟨⟨j + 1, by omega, by go_num, zX⟩, by simp [intOf]; omega⟩
      · by_cases hj2 : j < cs.length
        · have hn : ¬ 0 < n % 4 := fun h => hlt ⟨hj2, h⟩
          clear hlt
          go_wp2_with fail
          refine (HV.out _).mono ?_
          rintro e w1 ⟨rfl, hb1⟩
          have hs1 := hb1.size
          go_wp2_with fail
          refine (base_constant_any v _).mono ?_
          rintro e w2 ⟨⟨A1, c1, rfl, hown⟩, hb2⟩
          go_wp2
          go_ret
          exact ⟨⟨A1, c1, rfl, own_low hown (by omega)⟩, bel2 hb2 (bel2 hb1 hbel)⟩
        · clear hlt
          go_wp2_with fail
          refine (HV.out _).mono ?_
          rintro e w1 ⟨rfl, hb1⟩
          have hs1 := hb1.size
          go_wp2_with fail
          refine (base_constant_any v _).mono ?_
          rintro e w2 ⟨⟨A1, c1, rfl, hown⟩, hb2⟩
          go_wp2
          go_ret
          exact ⟨⟨A1, c1, rfl, own_low hown (by omega)⟩, bel2 hb2 (bel2 hb1 hbel)⟩
set_option maxRecDepth 100000 in
set_option maxHeartbeats 2000000 in
theorem leaf_col (k n : Int) (cs : List Col) (hk : ColsOk cs) (hl : cs.length ≤ 1000) (h0 : 0 ≤ n) (h1 : n ≤ 1000000000000) (hn : 0 < n % 4) (q : Nat) (hq : q < cs.length) (hqk : kdIs cs k n q = true) (hbef : ∀ j, j < q → kdIs cs k n j = false) : LeafTold k n cs := by
  have z0 : 0 ≤ (n / 4 + (q : Int)) % (cs.length : Int) := Int.emod_nonneg _ (by omega)
  have z1 : (n / 4 + (q : Int)) % (cs.length : Int) < (cs.length : Int) := Int.emod_lt_of_pos _ (by omega)
  obtain ⟨p, hp⟩ : ∃ p : Nat, (n / 4 + (q : Int)) % (cs.length : Int) = p := ⟨((n / 4 + (q : Int)) % (cs.length : Int)).toNat, by omega⟩
  have hpl : p < cs.length := by omega
  unfold kdIs at hqk
  rw [hp, show ((p : Int)).toNat = p from by omega, List.getElem?_eq_getElem hpl] at hqk
  simp only at hqk
  have hok := col_ok hk (List.getElem_mem hpl)
  have hin : cs[p].name ∈ colNm cs := List.mem_map.2 ⟨cs[p], List.getElem_mem hpl, rfl⟩
  refine ⟨⟨1, vl0, cs[p].name, 0⟩, hok, rfl, fun _ => hin, fun A cc w h => ?_⟩
  have HA := hide h
  have HN := hide hbef
  have HQ := hide (And.intro hp hqk)
  clear h hbef hok hin hqk hp z0 z1 hk
  obtain ⟨x, hx0⟩ : ∃ x, cs[p] = x := ⟨_, rfl⟩
  have HX0 := hide hx0
  rw [hx0] at HQ ⊢
  clear hx0
  go_enter Tryz.func217, Tryz.ntmps217
  go_wp2
  go_loopw [7] (fun i wr => ∃ j : Nat, j ≤ q ∧ i = .int .i64 j ∧ Below w.heap.size w wr) (fun i _ => cs.length - (intOf i).toNat)
  case atStart => exact ⟨0, by omega, rfl, Below.refl _ _⟩
  case round =>
    obtain ⟨j, hj, rfl, hbel⟩ := hrel
    have hsz := hbel.size
    have hlt : j < cs.length := by omega
    rcases HA.out.below hbel with e | ⟨g, off, rfl, hg, hc⟩
    · exact absurd hlt (by rw [e]; simp)
    have hz : ((cs.length : Int) == 0) = false := beq_eq_false_iff_ne.2 (by omega)
    by_cases hjq : j = q
    · have hm : (n / 4 + (j : Int)) % (cs.length : Int) = p := by rw [hjq]; exact HQ.out.1
      have hkd := HQ.out.2
      have hcol := hc p hpl
      clear hc hjq HQ HN
      rw [HX0.out] at hcol
      clear HX0
      obtain ⟨c0, c1, c2⟩ := hcol
      have HO := hide (own_fresh (wr.alloc (.cells #[str x.name, .int .i64 x.kind, .bool x.null] 105)) (base := w.heap.size) (e := 116) (size := 6) (n := 1) (cur := #[.int .i64 1, .int .i64 0, .int .i64 0, str [], str x.name, .int .i64 0]) (by simp; omega) (by simp) (by decide))
      go_wp2
      go_ret
      exact ⟨⟨_, 1, by first | rfl | (simp; done), HO.out⟩, zX⟩
    · have y0 : 0 ≤ (n / 4 + (j : Int)) % (cs.length : Int) := Int.emod_nonneg _ (by omega)
      have y1 : (n / 4 + (j : Int)) % (cs.length : Int) < (cs.length : Int) := Int.emod_lt_of_pos _ (by omega)
      obtain ⟨m, hm⟩ : ∃ m : Nat, (n / 4 + (j : Int)) % (cs.length : Int) = m := ⟨((n / 4 + (j : Int)) % (cs.length : Int)).toNat, by omega⟩
      have hml : m < cs.length := by omega
      have hcol := hc m hml
      have hkd := HN.out j (by omega)
      unfold kdIs at hkd
      rw [hm, show ((m : Int)).toNat = m from by omega, List.getElem?_eq_getElem hml] at hkd
      simp only at hkd
      clear hc y0 y1
      generalize cs[m] = y at *
      obtain ⟨c0, c1, c2⟩ := hcol
      go_wp2
      exact ⟨⟨j + 1, by omega, by go_num, zX⟩, by simp [intOf]; omega⟩
theorem first_of (p : Nat → Bool) : ∀ q : Nat, p q = true → ∃ r, r ≤ q ∧ p r = true ∧ ∀ j, j < r → p j = false
  | q, h => by
    by_cases hex : ∃ j, j < q ∧ p j = true
    · obtain ⟨j, hj, hjp⟩ := hex
      obtain ⟨r, h1, h2, h3⟩ := first_of p j hjp
      exact ⟨r, by omega, h2, h3⟩
    · exact ⟨q, Nat.le_refl _, h, fun j hj => by
        cases hb : p j
        · rfl
        · exact absurd ⟨j, hj, hb⟩ hex⟩
theorem leaf_told (k n : Int) (cs : List Col) (hk : ColsOk cs) (hl : cs.length ≤ 1000) (h0 : 0 ≤ n) (h1 : n ≤ 1000000000000) : LeafTold k n cs := by
  by_cases hn : 0 < n % 4
  · obtain ⟨b1, b2⟩ := firstI_bd (kdIs cs k n) cs.length
    by_cases hex : ∃ q, q < cs.length ∧ kdIs cs k n q = true
    · obtain ⟨q, hq, hqk⟩ := hex
      obtain ⟨r, hr, hrk, hmin⟩ := first_of (kdIs cs k n) q hqk
      exact leaf_col k n cs hk hl h0 h1 hn r (by omega) hrk hmin
    · exact leaf_const k n cs hl h0 h1 (fun _ j hj => by
        cases hb : kdIs cs k n j
        · rfl
        · exact absurd ⟨j, hj, hb⟩ hex)
  · exact leaf_const k n cs hl h0 h1 (fun h => absurd h hn)
end Go.Proofs.YtmbeeefkpgfgmaaGreatDoor
