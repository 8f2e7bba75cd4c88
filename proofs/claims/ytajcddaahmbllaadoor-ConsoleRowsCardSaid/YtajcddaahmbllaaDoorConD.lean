/- Contract: console.Row. -/
import Derived.Test.YtajcddaahmbllaaDoorConC
import Derived.Deep.RegionHeld3
import Derived.Deep.AppendLies
set_option linter.unusedVariables false
set_option linter.unusedSimpArgs false
namespace Go.Proofs.YtajcddaahmbllaaDoor
open Go.RowKit
theorem Tryd.info_val : (Tryd.prog.info? 23).map (fun i => (i.zero, i.size, i.bytes)) = some (some (.agg #[.int .i64 0, .int .i64 0, .string ⟨#[]⟩]), 3, 32) := by kernel_rfl
abbrev vlCells (vs : List Vl) : List Value := vs.flatMap Vl.cells
def RowRes (w w' : World) (r : Except Int (List Vl)) (e : Ending) : Prop :=
  match r with
  | .ok vs => ∃ (A : Option Addr) (c : Nat), e = .returned (.tuple #[.slice A vs.length c, .int .i64 0]) ∧ w'.ownsRow w.heap.size 23 3 (.slice A vs.length c) vs.length (vlCells vs)
  | .error x => e = .returned (.tuple #[.slice none 0 0, .int .i64 x])
theorem own_lower {w : World} {base b2 e size n : Nat} {v : Value} {xs : List Value} (h : w.ownsRow base e size v n xs) (hb : b2 ≤ base) : w.ownsRow b2 e size v n xs :=
  ⟨h.1, h.2.elim .inl fun ⟨g, cap, cur, a, b, r⟩ => .inr ⟨g, cap, cur, a, Nat.le_trans hb b, r⟩⟩
/-- The cells of a list of tokens from a place on. -/
def TokCells (w : World) (g off : Nat) (ts : List Tok) : Prop := ∀ i (h : i < ts.length),
    w.cell? ⟨g, off + i * 4, none⟩ = some (.int .i64 ts[i].kind) ∧ w.cell? ⟨g, off + i * 4 + 1, none⟩ = some (str ts[i].text) ∧
    w.cell? ⟨g, off + i * 4 + 2, none⟩ = some (.int .i64 ts[i].num) ∧ w.cell? ⟨g, off + i * 4 + 3, none⟩ = some (.int .i64 ts[i].off)
theorem TokCells.below {w w' : World} {g off : Nat} {ts : List Tok} (h : TokCells w g off ts) (hg : g < w.heap.size) (hb : Below w.heap.size w w') : TokCells w' g off ts := fun i hi => by
  obtain ⟨h1, h2, h3, h4⟩ := h i hi
  exact ⟨(hb.cell (p := ⟨g, _, none⟩) hg).trans h1, (hb.cell (p := ⟨g, _, none⟩) hg).trans h2, (hb.cell (p := ⟨g, _, none⟩) hg).trans h3, (hb.cell (p := ⟨g, _, none⟩) hg).trans h4⟩
theorem litL_end {t : Tok} {r : List Tok} (h : t.kind = 0) : litL (t :: r) = none := by rw [litL_cons, h]; simp
theorem tok_num {ts : List Tok} (hv : valT ts = true) {i : Nat} (hi : i < ts.length) : 0 ≤ ts[i].num ∧ ts[i].num ≤ 1073741824 := by
  have h : okTok ts[i].kind ts[i].text ts[i].num = true := (((valT_iff ts).1 hv).2 i hi).1
  rcases okTok_cases h with h | h | h | h | h | h <;> omega
theorem console_lit (g off c : Nat) (ts : List Tok) (hv : valT ts = true) (hlen : ts.length ≤ 1000000) (j O m : Nat) (hj : j < ts.length) (hO : O = off + j * 4) (hm : m = ts.length - j) (w : World) (hg : g < w.heap.size) (hT : TokCells w g off ts) :
    Calls Tryd.prog 17 #[.slice (some ⟨g, O, none⟩) m c] w fun e w' => LitRes (litL (ts.drop j)) e ∧ Below w.heap.size w w' := by
  subst hO hm
  obtain ⟨a0, a1, a2, a3⟩ := hT j hj
  by_cases hk : ts[j].kind = 0
  · rw [drop_at hj, litL_end hk]
    exact console_literal_end g (off + j * 4) (ts.length - j) c ts[j] w (by omega) (by omega) hg hk a0 a1 a2 a3
  · have hl := last_of hv hj hk
    obtain ⟨b0, _, b2, _⟩ := hT (j + 1) hl
    obtain ⟨n0, n1⟩ := tok_num hv hl
    rw [drop_at hj, drop_at hl]
    exact console_literal_two g (off + j * 4) (ts.length - j) c ts[j] ts[j + 1] (ts.drop (j + 1 + 1)) w (by omega) (by omega) hg a0 a1 a2 a3 (by rw [show off + j * 4 + 4 = off + (j + 1) * 4 by omega]; exact b0) (by rw [show off + j * 4 + 4 + 2 = off + (j + 1) * 4 + 2 by omega]; exact b2) (by omega) (by omega)
theorem ref42_lit (g off c : Nat) (ts : List Tok) (hv : valT ts = true) (hlen : ts.length ≤ 1000000) (j : Nat) (hj : j < ts.length) (w : World) (hg : g < w.heap.size) (hT : TokCells w g off ts) :
    Calls Tryd.prog 19 #[.slice (some ⟨g, off, none⟩) ts.length c, .int .i64 j] w fun e w' => LitRes2 j (litL (ts.drop j)) e ∧ Below w.heap.size w w' := by
  obtain ⟨a0, a1, a2, a3⟩ := hT j hj
  by_cases hk : ts[j].kind = 0
  · rw [drop_at hj, litL_end hk]
    exact ref42_literal_end g off ts.length c j ts[j] w hj hlen hg hk a0 a1 a2 a3
  · have hl := last_of hv hj hk
    obtain ⟨b0, _, b2, _⟩ := hT (j + 1) hl
    obtain ⟨n0, n1⟩ := tok_num hv hl
    rw [drop_at hj, drop_at hl]
    exact ref42_literal_two g off ts.length c j ts[j] ts[j + 1] (ts.drop (j + 1 + 1)) w hl hlen hg a0 a1 a2 a3 b0 b2 (by omega) (by omega)
theorem cells_g3 {W : World} {B : Nat} {a b c : Value} {t : TypeId} (h : W.heap[B]? = some (.cells #[a, b, c] t)) : ∀ (j : Nat) (u : Value), [a, b, c][j]? = some u → W.cell? ((⟨B, 0, none⟩ : Addr).add j) = some u := by
  intro j u hu
  have e : (⟨B, 0, none⟩ : Addr).add j = ⟨B, j, none⟩ := by unfold Addr.add; split <;> simp_all
  rw [e, cell_of_heap h]
  simpa using hu
def lenOf : Value → Nat | .slice _ n _ => n | _ => 0
@[simp] theorem lenOf_slice (a : Option Addr) (n c : Nat) : lenOf (.slice a n c) = n := rfl
theorem okTok_num {k n : Int} {x : Bytes} (h : okTok k x n = true) : 0 ≤ n ∧ n ≤ 1073741824 := by
  rcases okTok_cases h with h | h | h | h | h | h <;> omega
theorem rowT_end {ts : List Tok} {vs : List Vl} (h : rowGo ts.length ts [] = .ok vs) : rowT ts = if 12 < vs.length then .error 2 else .ok vs := by unfold rowT; rw [h]
theorem rowT_err {ts : List Tok} {c : Int} (h : rowGo ts.length ts [] = .error c) : rowT ts = .error c := by unfold rowT; rw [h]
theorem splitS_pos {l : Bytes} {ts : List Tok} (h : splitS l = .ok ts) : 0 < ts.length := ((valT_iff ts).1 (splitS_fine h)).1
set_option maxRecDepth 100000 in
set_option maxHeartbeats 8000000 in
theorem console_Row_any (s : ByteArray) (w : World) (hG : Glob w) (hs : s.size ≤ 100000) :
    Calls Tryd.prog 6 #[.string s] w fun e w' => RowRes w w' (rowS (bs s)) e ∧ Below w.heap.size w w' := by
  have HSp := hide (token_Split_any s w hG (by have : (1000000 : Nat) ≤ maxLen := by decide
                                               omega))
  clear hG
  obtain ⟨i0, hi, hz0, hz1, hz2⟩ := info_parts Tryd.info_val
  cases hsp : splitS (bs s) with
  | error x =>
    have HX := hide (splitS_err hsp)
    have hne : ((x.2 : Int) != 0) = true := by simpa using HX.out
    have HR := hide (show rowS (bs s) = .error x.2 by unfold rowS; rw [hsp])
    rw [hsp] at HSp
    clear HX hsp
    go_enter Tryd.func6, Tryd.ntmps6
    go_wp2_with fail
    refine HSp.out.mono ?_
    rintro e w1 ⟨hres, hb1⟩
    obtain rfl : e = _ := hres
    go_wp2
    go_ret2
    exact ⟨by rw [HR.out]; rfl, hb1⟩
  | ok ts =>
    have hv := splitS_fine hsp
    have hpos := splitS_pos hsp
    have hcnt := splitS_count hsp
    have HV := hide hv
    have HR := hide (show rowS (bs s) = rowT ts by unfold rowS; rw [hsp])
    rw [hsp] at HSp
    clear hsp hv
    go_enter Tryd.func6, Tryd.ntmps6
    go_wp2_with fail
    refine HSp.out.mono ?_
    rintro e w1 ⟨hres, hb1⟩
    obtain ⟨T, tc, rfl, hownT⟩ := hres
    have hcap := own_cap hownT
    have hta := ToksAt_of_own hownT
    clear hownT HSp
    rcases hta with h | ⟨g, off, rfl, hg, hc⟩
    · rw [h] at hpos; exact absurd hpos (by simp)
    have HC := hide (show TokCells w1 g off ts from hc)
    clear hc
    have htl : ts.length ≤ 1000000 := by omega
    go_wp2
    go_loopw [4, 7] (fun l v wr => ∃ (i : Nat) (acc : List Vl) (A : Option Addr) (c : Nat), l = .slice (some ⟨g, off + i * 4, none⟩) (ts.length - i) (tc - i) ∧ v = .slice A acc.length c ∧ Hid (RowRel ts i acc) ∧
        wr.ownsRow w1.heap.size 23 3 (.slice A acc.length c) acc.length (vlCells acc) ∧ Below w1.heap.size w1 wr) (fun l _ _ => lenOf l)
    case atStart => exact ⟨0, [], none, 0, by simp, rfl, RowRel_start hpos, own_nil _ _ _ _, Below.refl _ _⟩
    case round =>
      obtain ⟨i, acc, A, c, rfl, rfl, HRel, hown, hbel⟩ := hrel
      have hil := HRel.out.2.1
      have hacc := HRel.out.2.2.1
      have hsz := hbel.size
      have hg2 : g < wr.heap.size := by omega
      have hcell : ∀ o, wr.cell? ⟨g, o, none⟩ = w1.cell? ⟨g, o, none⟩ := fun o => hbel.cell (p := ⟨g, o, none⟩) hg
      obtain ⟨a0, a1, a2, a3⟩ := HC.out i hil
      rw [← hcell] at a0 a1 a2 a3
      by_cases hk : ts[i].kind = 0
      · have HE := hide (RowRel_end HRel.out hil hk)
        have HE2 := hide (rowT_end HE.out)
        rw [hk] at a0
        by_cases h12 : 12 < acc.length
        · clear hk hcell
          go_wp2
          go_ret2
          exact ⟨by rw [HR.out, HE2.out, if_pos h12]; rfl, below_st hbel hb1⟩
        · clear hk hcell
          go_wp2
          go_ret2
          refine ⟨?_, below_st hbel hb1⟩
          rw [HR.out, HE2.out, if_neg h12]
          exact ⟨A, c, rfl, own_lower hown hb1.size⟩
      · have hl1 := last_of HV.out hil hk
        have hkb : (ts[i].kind != 0) = true := by simpa using hk
        have HLit := hide (fun (j O m c : Nat) (hj : j < ts.length) (hO : O = off + j * 4) (hm : m = ts.length - j) (W : World) (hW : Below wr.heap.size wr W) =>
          console_lit g off c ts HV.out htl j O m hj hO hm W (Nat.lt_of_lt_of_le hg2 hW.size) ((HC.out.below hg (hbel.mono (Nat.le_refl _))).below hg2 hW))
        by_cases ha : acc = []
        · subst ha
          cases hl : litL (ts.drop i) with
          | none =>
            have HE := hide (rowT_err (RowRel_bad0 HRel.out hil hk rfl hl))
            have HL0 := hide (fun W hW => HLit.out i (off + i * 4) (ts.length - i) (tc - i) hil rfl rfl W hW)
            rw [hl] at HL0
            clear hk hcell hl
            generalize ts[i] = t at *
            go_wp2_with fail
            refine (HL0.out _ (by (repeat (first | exact Below.refl _ _ | assumption | refine Below.drew ?_ | refine below_drewN ?_ _ | refine Below.alloc ?_ (by first | omega | (simp; done) | (simp; omega)) _ | refine Below.setCell ?_ (by first | omega | (simp; done) | (simp; omega)) _)))).mono ?_
            rintro e w2 ⟨hres, hb2⟩
            obtain rfl : e = _ := hres
            have hb3 := below_st hb2 (below_st hbel hb1)
            have hs3 := hb3.size
            go_wp2
            go_ret2
            exact ⟨by rw [HR.out, HE.out]; rfl, by (repeat (first | exact Below.refl _ _ | assumption | refine Below.drew ?_ | refine below_drewN ?_ _ | refine Below.alloc ?_ (by first | omega | (simp; done) | (simp; omega)) _ | refine Below.setCell ?_ (by first | omega | (simp; done) | (simp; omega)) _))⟩
          | some x =>
            obtain ⟨v, n⟩ := x
            have HStep := hide (RowRel_step0 HV.out HRel.out hil hk rfl hl)
            have hin := HStep.out.2.1
            have HL0 := hide (fun W hW => HLit.out i (off + i * 4) (ts.length - i) (tc - i) hil rfl rfl W hW)
            obtain ⟨hn, _⟩ := litL_pos hl
            rw [hl] at HL0
            clear hk hcell hl
            generalize ts[i] = t at *
            have hM1 : n < ts.length - i := by omega
            have hMC : ts.length - i ≤ tc - i := by omega
            have hC6 : ts.length - i ≤ 1000000 := by omega
            have HEq := hide (show (ts.length - i) - n = ts.length - (i + n) ∧ (tc - i) - n = tc - (i + n) ∧ off + i * 4 + n * 4 = off + (i + n) * 4 ∧ ts.length - (i + n) < ts.length - i from ⟨by omega, by omega, by omega, by omega⟩)
            generalize ts.length - i = M at *
            generalize tc - i = C at *
            generalize off + i * 4 = O at *
            rcases hn with rfl | rfl
            · have c1 : (0 : Int) ≤ (M : Int) := by omega
              have c2 : (1 : Int) ≤ (M : Int) := by omega
              have c3 : (M : Int) ≤ (C : Int) := by omega
              have c4 : (1 : Int) ≤ (C : Int) := by omega
              have c5 : ¬ C = 1 := by omega
              go_wp2_with fail
              refine (HL0.out _ (by (repeat (first | exact Below.refl _ _ | assumption | refine Below.drew ?_ | refine below_drewN ?_ _ | refine Below.alloc ?_ (by first | omega | (simp; done) | (simp; omega)) _ | refine Below.setCell ?_ (by first | omega | (simp; done) | (simp; omega)) _)))).mono ?_
              rintro e w2 ⟨hres, hb2⟩
              obtain rfl : e = .returned (.tuple #[v.agg, .int .i64 1]) := hres
              have own2 := own_below hown hb2
              have hsz2 := hb2.size
              have hb4 := below_st hb2 hbel
              have ag : (Value.slice A (List.length ([] : List Vl)) c).ownBlock ≠ some w2.heap.size := fun e => by have := (own2.lt _ e).2; omega
              go_wp2_with fail
              go_region_held3 (fun w' => w'.cell? ⟨w2.heap.size, 0, none⟩ = some (.int .i64 v.kind) ∧ w'.cell? ⟨w2.heap.size, 1, none⟩ = some (.int .i64 v.num) ∧ w'.cell? ⟨w2.heap.size, 2, none⟩ = some (str v.text))
                (first
                  | go_keep
                  | (go_split_ands
                     refine ⟨?_, ?_, ?_⟩ <;> (rw [hgrow.cell_far _ (by simp; omega) (Ne.symm ag)]; assumption)))
                ((refine step_append_lies _ (by rfl) _ _ _ (by rfl) w1.heap.size 23 i0 _ 3 32 Tryd.underlying25 hi hz0 hz1 hz2 rfl (by omega) _ _ _ (by rfl) (own_below own2 (by (repeat (first | exact Below.refl _ _ | assumption | refine Below.drew ?_ | refine below_drewN ?_ _ | refine Below.alloc ?_ (by first | omega | (simp; done) | (simp; omega)) _ | refine Below.setCell ?_ (by first | omega | (simp; done) | (simp; omega)) _)))) ⟨w2.heap.size + 1, 0, none⟩ 1 1 v.cells (by rfl) (by rfl) (by exact cells_g3 (by first | exact heap_alloc_new _ _ | exact heap_new1 _ _ _ | (simp [heap_new1]; done))) (by simp [Vl.cells, Value.oneCell']) (by omega) (by unfold maxLen; first | omega | (simp; omega) | (simp; done)) (by first | omega | (simp; omega) | (simp; done)) (by simp; omega) (w2.heap.size + 2) (by simp) ?_; intro gg cap w3 hown3 hgrow hat hlt))
              have hb5 : Below w1.heap.size w1 w3 := (show Below w1.heap.size w1 _ from by (repeat (first | exact Below.refl _ _ | assumption | refine Below.drew ?_ | refine below_drewN ?_ _ | refine Below.alloc ?_ (by first | omega | (simp; done) | (simp; omega)) _ | refine Below.setCell ?_ (by first | omega | (simp; done) | (simp; omega)) _))).grown hgrow (by simp; omega) (fun k hk => (own2.lt k hk).1)
              go_wp2
              obtain ⟨q1, q2, q3, q4⟩ := HEq.out
              exact ⟨⟨i + 1, ([] : List Vl) ++ [v], some ⟨gg, 0, none⟩, cap, by rw [← q1, ← q2, ← q3]; skip, by first | rfl | simp, HStep.out, by simpa using hown3, hb5⟩, by simp <;> omega⟩
            · have c1 : (0 : Int) ≤ (M : Int) := by omega
              have c2 : (2 : Int) ≤ (M : Int) := by omega
              have c3 : (M : Int) ≤ (C : Int) := by omega
              have c4 : (2 : Int) ≤ (C : Int) := by omega
              have c5 : ¬ C = 2 := by omega
              go_wp2_with fail
              refine (HL0.out _ (by (repeat (first | exact Below.refl _ _ | assumption | refine Below.drew ?_ | refine below_drewN ?_ _ | refine Below.alloc ?_ (by first | omega | (simp; done) | (simp; omega)) _ | refine Below.setCell ?_ (by first | omega | (simp; done) | (simp; omega)) _)))).mono ?_
              rintro e w2 ⟨hres, hb2⟩
              obtain rfl : e = .returned (.tuple #[v.agg, .int .i64 2]) := hres
              have own2 := own_below hown hb2
              have hsz2 := hb2.size
              have hb4 := below_st hb2 hbel
              have ag : (Value.slice A (List.length ([] : List Vl)) c).ownBlock ≠ some w2.heap.size := fun e => by have := (own2.lt _ e).2; omega
              go_wp2_with fail
              go_region_held3 (fun w' => w'.cell? ⟨w2.heap.size, 0, none⟩ = some (.int .i64 v.kind) ∧ w'.cell? ⟨w2.heap.size, 1, none⟩ = some (.int .i64 v.num) ∧ w'.cell? ⟨w2.heap.size, 2, none⟩ = some (str v.text))
                (first
                  | go_keep
                  | (go_split_ands
                     refine ⟨?_, ?_, ?_⟩ <;> (rw [hgrow.cell_far _ (by simp; omega) (Ne.symm ag)]; assumption)))
                ((refine step_append_lies _ (by rfl) _ _ _ (by rfl) w1.heap.size 23 i0 _ 3 32 Tryd.underlying25 hi hz0 hz1 hz2 rfl (by omega) _ _ _ (by rfl) (own_below own2 (by (repeat (first | exact Below.refl _ _ | assumption | refine Below.drew ?_ | refine below_drewN ?_ _ | refine Below.alloc ?_ (by first | omega | (simp; done) | (simp; omega)) _ | refine Below.setCell ?_ (by first | omega | (simp; done) | (simp; omega)) _)))) ⟨w2.heap.size + 1, 0, none⟩ 1 1 v.cells (by rfl) (by rfl) (by exact cells_g3 (by first | exact heap_alloc_new _ _ | exact heap_new1 _ _ _ | (simp [heap_new1]; done))) (by simp [Vl.cells, Value.oneCell']) (by omega) (by unfold maxLen; first | omega | (simp; omega) | (simp; done)) (by first | omega | (simp; omega) | (simp; done)) (by simp; omega) (w2.heap.size + 2) (by simp) ?_; intro gg cap w3 hown3 hgrow hat hlt))
              have hb5 : Below w1.heap.size w1 w3 := (show Below w1.heap.size w1 _ from by (repeat (first | exact Below.refl _ _ | assumption | refine Below.drew ?_ | refine below_drewN ?_ _ | refine Below.alloc ?_ (by first | omega | (simp; done) | (simp; omega)) _ | refine Below.setCell ?_ (by first | omega | (simp; done) | (simp; omega)) _))).grown hgrow (by simp; omega) (fun k hk => (own2.lt k hk).1)
              go_wp2
              obtain ⟨q1, q2, q3, q4⟩ := HEq.out
              exact ⟨⟨i + 2, ([] : List Vl) ++ [v], some ⟨gg, 0, none⟩, cap, by rw [← q1, ← q2, ← q3]; skip, by first | rfl | simp, HStep.out, by simpa using hown3, hb5⟩, by simp <;> omega⟩
        · have hacc0 : 0 < acc.length := by
            cases acc with
            | nil => exact absurd rfl ha
            | cons => simp
          by_cases hcm : ts[i].kind = 5 ∧ ts[i].text = [44]
          case neg =>
            have HE := hide (rowT_err (RowRel_comma HRel.out hil hk ha hcm))
            have hM1 : 1 < ts.length - i := by omega
            by_cases h5 : ts[i].kind = 5
            · have h5b : (ts[i].kind != 5) = false := by simpa using h5
              have h44 : (ts[i].text == [44]) = false := by
                cases h : (ts[i].text == [44])
                · rfl
                · exact absurd ⟨h5, by simpa using h⟩ hcm
              clear hk hcell h5 hcm ha
              generalize ts[i] = t at *
              generalize ts.length - i = M at *
              generalize off + i * 4 = O at *
              go_wp2
              go_ret2
              exact ⟨by rw [HR.out, HE.out]; rfl, below_st hbel hb1⟩
            · have h5b : (ts[i].kind != 5) = true := by simpa using h5
              clear hk hcell h5 hcm ha
              generalize ts[i] = t at *
              generalize ts.length - i = M at *
              generalize off + i * 4 = O at *
              go_wp2
              go_ret2
              exact ⟨by rw [HR.out, HE.out]; rfl, below_st hbel hb1⟩
          have h5b : (ts[i].kind != 5) = false := by simpa using hcm.1
          have h44 := hcm.2
          rw [h44] at a1
          have HL0 := hide (fun W hW => HLit.out (i + 1) (off + i * 4 + 4) (ts.length - (i + 1)) (tc - (i + 1)) hl1 (by omega) rfl W hW)
          have hMe : ts.length - i = (ts.length - (i + 1)) + 1 := by omega
          have hCe : tc - i = (tc - (i + 1)) + 1 := by omega
          have hM0 : 1 ≤ ts.length - (i + 1) := by omega
          have hMC : ts.length - (i + 1) ≤ tc - (i + 1) := by omega
          have hC6 : ts.length - (i + 1) ≤ 1000000 := by omega
          cases hl : litL (ts.drop (i + 1)) with
          | none =>
            have HE := hide (rowT_err (RowRel_bad1 HRel.out hil hk ha hcm hl))
            rw [hl] at HL0
            rw [hMe, hCe]
            clear hk hcell hl hcm ha hMe hCe h44
            generalize ts[i] = t at *
            generalize ts.length - (i + 1) = M at *
            generalize tc - (i + 1) = C at *
            generalize off + i * 4 = O at *
            have c5 : ¬ C + 1 = 1 := by omega
            go_wp2_with fail
            refine (HL0.out _ (by (repeat (first | exact Below.refl _ _ | assumption | refine Below.drew ?_ | refine below_drewN ?_ _ | refine Below.alloc ?_ (by first | omega | (simp; done) | (simp; omega)) _ | refine Below.setCell ?_ (by first | omega | (simp; done) | (simp; omega)) _)))).mono ?_
            rintro e w2 ⟨hres, hb2⟩
            obtain rfl : e = _ := hres
            have hb3 := below_st hb2 (below_st hbel hb1)
            have hs3 := hb3.size
            go_wp2
            go_ret2
            exact ⟨by rw [HR.out, HE.out]; rfl, by (repeat (first | exact Below.refl _ _ | assumption | refine Below.drew ?_ | refine below_drewN ?_ _ | refine Below.alloc ?_ (by first | omega | (simp; done) | (simp; omega)) _ | refine Below.setCell ?_ (by first | omega | (simp; done) | (simp; omega)) _))⟩
          | some x =>
            obtain ⟨v, n⟩ := x
            have HStep := hide (RowRel_step1 HV.out HRel.out hil hk ha hcm hl)
            have hin := HStep.out.2.1
            obtain ⟨hn, _⟩ := litL_pos hl
            rw [hl] at HL0
            have hM1 : n < ts.length - (i + 1) := by omega
            have HEq := hide (show (ts.length - (i + 1)) - n = ts.length - (i + 1 + n) ∧ (tc - (i + 1)) - n = tc - (i + 1 + n) ∧ off + i * 4 + 4 + n * 4 = off + (i + 1 + n) * 4 ∧ ts.length - (i + 1 + n) < ts.length - (i + 1) from ⟨by omega, by omega, by omega, by omega⟩)
            rw [hMe, hCe]
            clear hk hcell hl hcm ha hMe hCe h44
            generalize ts[i] = t at *
            generalize ts.length - (i + 1) = M at *
            generalize tc - (i + 1) = C at *
            generalize off + i * 4 = O at *
            have c5 : ¬ C + 1 = 1 := by omega
            rcases hn with rfl | rfl
            · have c1 : (0 : Int) ≤ (M : Int) := by omega
              have c2 : (1 : Int) ≤ (M : Int) := by omega
              have c3 : (M : Int) ≤ (C : Int) := by omega
              have c4 : (1 : Int) ≤ (C : Int) := by omega
              have c6 : ¬ C = 1 := by omega
              go_wp2_with fail
              refine (HL0.out _ (by (repeat (first | exact Below.refl _ _ | assumption | refine Below.drew ?_ | refine below_drewN ?_ _ | refine Below.alloc ?_ (by first | omega | (simp; done) | (simp; omega)) _ | refine Below.setCell ?_ (by first | omega | (simp; done) | (simp; omega)) _)))).mono ?_
              rintro e w2 ⟨hres, hb2⟩
              obtain rfl : e = .returned (.tuple #[v.agg, .int .i64 1]) := hres
              have own2 := own_below hown hb2
              have hsz2 := hb2.size
              have hb4 := below_st hb2 hbel
              have ag : (Value.slice A (List.length acc) c).ownBlock ≠ some w2.heap.size := fun e => by have := (own2.lt _ e).2; omega
              go_wp2_with fail
              go_region_held3 (fun w' => w'.cell? ⟨w2.heap.size, 0, none⟩ = some (.int .i64 v.kind) ∧ w'.cell? ⟨w2.heap.size, 1, none⟩ = some (.int .i64 v.num) ∧ w'.cell? ⟨w2.heap.size, 2, none⟩ = some (str v.text))
                (first
                  | go_keep
                  | (go_split_ands
                     refine ⟨?_, ?_, ?_⟩ <;> (rw [hgrow.cell_far _ (by simp; omega) (Ne.symm ag)]; assumption)))
                ((refine step_append_lies _ (by rfl) _ _ _ (by rfl) w1.heap.size 23 i0 _ 3 32 Tryd.underlying25 hi hz0 hz1 hz2 rfl (by omega) _ _ _ (by rfl) (own_below own2 (by (repeat (first | exact Below.refl _ _ | assumption | refine Below.drew ?_ | refine below_drewN ?_ _ | refine Below.alloc ?_ (by first | omega | (simp; done) | (simp; omega)) _ | refine Below.setCell ?_ (by first | omega | (simp; done) | (simp; omega)) _)))) ⟨w2.heap.size + 1, 0, none⟩ 1 1 v.cells (by rfl) (by rfl) (by exact cells_g3 (by first | exact heap_alloc_new _ _ | exact heap_new1 _ _ _ | (simp [heap_new1]; done))) (by simp [Vl.cells, Value.oneCell']) (by omega) (by unfold maxLen; first | omega | (simp; omega) | (simp; done)) (by first | omega | (simp; omega) | (simp; done)) (by simp; omega) (w2.heap.size + 2) (by simp) ?_; intro gg cap w3 hown3 hgrow hat hlt))
              have hb5 : Below w1.heap.size w1 w3 := (show Below w1.heap.size w1 _ from by (repeat (first | exact Below.refl _ _ | assumption | refine Below.drew ?_ | refine below_drewN ?_ _ | refine Below.alloc ?_ (by first | omega | (simp; done) | (simp; omega)) _ | refine Below.setCell ?_ (by first | omega | (simp; done) | (simp; omega)) _))).grown hgrow (by simp; omega) (fun k hk => (own2.lt k hk).1)
              go_wp2
              obtain ⟨q1, q2, q3, q4⟩ := HEq.out
              exact ⟨⟨i + 1 + 1, acc ++ [v], some ⟨gg, 0, none⟩, cap, by rw [← q1, ← q2, ← q3]; skip, by first | rfl | simp, HStep.out, by simpa using hown3, hb5⟩, by simp <;> omega⟩
            · have c1 : (0 : Int) ≤ (M : Int) := by omega
              have c2 : (2 : Int) ≤ (M : Int) := by omega
              have c3 : (M : Int) ≤ (C : Int) := by omega
              have c4 : (2 : Int) ≤ (C : Int) := by omega
              have c6 : ¬ C = 2 := by omega
              go_wp2_with fail
              refine (HL0.out _ (by (repeat (first | exact Below.refl _ _ | assumption | refine Below.drew ?_ | refine below_drewN ?_ _ | refine Below.alloc ?_ (by first | omega | (simp; done) | (simp; omega)) _ | refine Below.setCell ?_ (by first | omega | (simp; done) | (simp; omega)) _)))).mono ?_
              rintro e w2 ⟨hres, hb2⟩
              obtain rfl : e = .returned (.tuple #[v.agg, .int .i64 2]) := hres
              have own2 := own_below hown hb2
              have hsz2 := hb2.size
              have hb4 := below_st hb2 hbel
              have ag : (Value.slice A (List.length acc) c).ownBlock ≠ some w2.heap.size := fun e => by have := (own2.lt _ e).2; omega
              go_wp2_with fail
              go_region_held3 (fun w' => w'.cell? ⟨w2.heap.size, 0, none⟩ = some (.int .i64 v.kind) ∧ w'.cell? ⟨w2.heap.size, 1, none⟩ = some (.int .i64 v.num) ∧ w'.cell? ⟨w2.heap.size, 2, none⟩ = some (str v.text))
                (first
                  | go_keep
                  | (go_split_ands
                     refine ⟨?_, ?_, ?_⟩ <;> (rw [hgrow.cell_far _ (by simp; omega) (Ne.symm ag)]; assumption)))
                ((refine step_append_lies _ (by rfl) _ _ _ (by rfl) w1.heap.size 23 i0 _ 3 32 Tryd.underlying25 hi hz0 hz1 hz2 rfl (by omega) _ _ _ (by rfl) (own_below own2 (by (repeat (first | exact Below.refl _ _ | assumption | refine Below.drew ?_ | refine below_drewN ?_ _ | refine Below.alloc ?_ (by first | omega | (simp; done) | (simp; omega)) _ | refine Below.setCell ?_ (by first | omega | (simp; done) | (simp; omega)) _)))) ⟨w2.heap.size + 1, 0, none⟩ 1 1 v.cells (by rfl) (by rfl) (by exact cells_g3 (by first | exact heap_alloc_new _ _ | exact heap_new1 _ _ _ | (simp [heap_new1]; done))) (by simp [Vl.cells, Value.oneCell']) (by omega) (by unfold maxLen; first | omega | (simp; omega) | (simp; done)) (by first | omega | (simp; omega) | (simp; done)) (by simp; omega) (w2.heap.size + 2) (by simp) ?_; intro gg cap w3 hown3 hgrow hat hlt))
              have hb5 : Below w1.heap.size w1 w3 := (show Below w1.heap.size w1 _ from by (repeat (first | exact Below.refl _ _ | assumption | refine Below.drew ?_ | refine below_drewN ?_ _ | refine Below.alloc ?_ (by first | omega | (simp; done) | (simp; omega)) _ | refine Below.setCell ?_ (by first | omega | (simp; done) | (simp; omega)) _))).grown hgrow (by simp; omega) (fun k hk => (own2.lt k hk).1)
              go_wp2
              obtain ⟨q1, q2, q3, q4⟩ := HEq.out
              exact ⟨⟨i + 1 + 2, acc ++ [v], some ⟨gg, 0, none⟩, cap, by rw [← q1, ← q2, ← q3]; skip, by first | rfl | simp, HStep.out, by simpa using hown3, hb5⟩, by simp <;> omega⟩
end Go.Proofs.YtajcddaahmbllaaDoor
