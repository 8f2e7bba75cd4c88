/- The law ConsoleLiterals, walked. -/
import Derived.Test.YtajcddaahmbllaaDoorConF
import Derived.Deep.RegionHeld3
set_option linter.unusedVariables false
set_option linter.unusedSimpArgs false
namespace Go.Proofs.YtajcddaahmbllaaDoor
open Go.RowKit
theorem rowS_len {l : Bytes} {vs : List Vl} (h : rowS l = .ok vs) : vs.length ≤ 12 := by
  unfold rowS at h
  split at h
  · cases h
  · unfold rowT at h
    split at h
    · cases h
    · split at h
      · cases h
      · injection h with h; subst h; omega
def RowIs (r : Except Int (List Vl)) (vs : List Vl) (x : Int) : Prop := match r with | .ok us => vs = us ∧ x = 0 | .error y => vs = [] ∧ x = y
def RowBoth (w : World) (r : Except Int (List Vl)) (e : Ending) : Prop :=
  ∃ (A : Option Addr) (c : Nat) (vs : List Vl) (x : Int), e = .returned (.tuple #[.slice A vs.length c, .int .i64 x]) ∧ VlsAt w A vs ∧ RowIs r vs x
theorem RowRes.both {w0 w : World} {r : Except Int (List Vl)} {e : Ending} (h : RowRes w0 w r e) : RowBoth w r e := by
  cases r with
  | error x => exact ⟨none, 0, [], x, h, .inl rfl, rfl, rfl⟩
  | ok vs =>
    obtain ⟨A, c, he, hown⟩ := h
    exact ⟨A, c, vs, 0, he, VlsAt_of_own hown, rfl, rfl⟩
theorem RowBoth.same {r : Except Int (List Vl)} {vs us : List Vl} {x y : Int} (h : RowIs r vs x) (h2 : RowIs r us y) : us = vs ∧ y = x := by
  cases r with
  | error z => exact ⟨h2.1.trans h.1.symm, h2.2.trans h.2.symm⟩
  | ok z => exact ⟨h2.1.trans h.1.symm, h2.2.trans h.2.symm⟩
theorem RowBoth.short {l : Bytes} {vs : List Vl} {x : Int} (h : RowIs (rowS l) vs x) : vs.length ≤ 12 := by
  cases hr : rowS l with
  | error z => rw [hr] at h; rw [h.1]; simp
  | ok z => rw [hr] at h; rw [h.1]; exact rowS_len hr
set_option maxRecDepth 100000 in
set_option maxHeartbeats 4000000 in
theorem law42_ConsoleLiterals_any (k n : Int) (x s : ByteArray) (w : World) (hG : GlobJ w) (hx : x.size ≤ maxLen) (hs : s.size ≤ maxLen) :
    Calls Tryd.prog 3 #[.agg #[.int .i64 k, .int .i64 n, .string x], .string s] w fun e w' => e = .returned (.bool true) ∧ Below w.heap.size w w' := by
  have HG := hide hG; clear hG
  unfold maxLen at hx hs
  by_cases h1 : 300 < x.size
  · go_enter Tryd.func3, Tryd.ntmps3
    go_wp2_with fail
    refine (law42_plain_any _ (HG.out.below (by (repeat (first | exact Below.refl _ _ | assumption | refine Below.drew ?_ | refine below_drewN ?_ _ | refine Below.alloc ?_ (by first | omega | (simp; done) | (simp; omega)) _ | refine Below.setCell ?_ (by first | omega | (simp; done) | (simp; omega)) _))))).mono ?_
    rintro e w1 ⟨rfl, hb1⟩
    go_wp2
    go_ret
    exact ⟨rfl, Below.trans (by (repeat (first | exact Below.refl _ _ | assumption | refine Below.drew ?_ | refine below_drewN ?_ _ | refine Below.alloc ?_ (by first | omega | (simp; done) | (simp; omega)) _ | refine Below.setCell ?_ (by first | omega | (simp; done) | (simp; omega)) _))) (hb1.mono (by simp))⟩
  by_cases h2 : 600 < s.size
  · go_enter Tryd.func3, Tryd.ntmps3
    go_wp2_with fail
    refine (law42_plain_any _ (HG.out.below (by (repeat (first | exact Below.refl _ _ | assumption | refine Below.drew ?_ | refine below_drewN ?_ _ | refine Below.alloc ?_ (by first | omega | (simp; done) | (simp; omega)) _ | refine Below.setCell ?_ (by first | omega | (simp; done) | (simp; omega)) _))))).mono ?_
    rintro e w1 ⟨rfl, hb1⟩
    go_wp2
    go_ret
    exact ⟨rfl, Below.trans (by (repeat (first | exact Below.refl _ _ | assumption | refine Below.drew ?_ | refine below_drewN ?_ _ | refine Below.alloc ?_ (by first | omega | (simp; done) | (simp; omega)) _ | refine Below.setCell ?_ (by first | omega | (simp; done) | (simp; omega)) _))) (hb1.mono (by simp))⟩
  have HR1 := hide (fun W (hW : GlobJ W) => console_Row_any s W hW.glob (by omega))
  have HR2 := hide (fun W => ref42_Row_any s W (by omega))
  have HL1 := hide (fun W (hW : GlobJ W) => con_Literal_any k n x W hW (by omega))
  have HL2 := hide (fun W (hW : GlobJ W) => r42_Literal_any k n x W hW (by omega))
  generalize litV k n (bs x) = z at *
  have hzz : (z == z) = true := by simp
  go_enter Tryd.func3, Tryd.ntmps3
  go_wp2_with fail
  refine (HR1.out _ (HG.out.below (by (repeat (first | exact Below.refl _ _ | assumption | refine Below.drew ?_ | refine below_drewN ?_ _ | refine Below.alloc ?_ (by first | omega | (simp; done) | (simp; omega)) _ | refine Below.setCell ?_ (by first | omega | (simp; done) | (simp; omega)) _))))).mono ?_
  rintro e w1 ⟨hres, hb1⟩
  obtain ⟨A, ca, vs, y, rfl, hv, hm⟩ := hres.both
  have hsh := RowBoth.short hm
  have HM := hide hm
  obtain ⟨k0, k1, k2⟩ := box3g (B := w.heap.size) (by simpa using hb1) (heap_alloc_new w _)
  have hc1 : Below w.heap.size w w1 := Below.trans (by (repeat (first | exact Below.refl _ _ | assumption | refine Below.drew ?_ | refine below_drewN ?_ _ | refine Below.alloc ?_ (by first | omega | (simp; done) | (simp; omega)) _ | refine Below.setCell ?_ (by first | omega | (simp; done) | (simp; omega)) _))) (hb1.mono (by simp))
  have hz1 : w.heap.size < w1.heap.size := by have := hb1.size; simp at this; omega
  clear hm hres hb1
  go_wp2_with fail
  refine (HR2.out _).mono ?_
  rintro e w2 ⟨hres, hb2⟩
  obtain ⟨B, cb, us, y2, rfl, hu, hm2⟩ := hres.both
  obtain ⟨rfl, rfl⟩ := RowBoth.same HM.out hm2
  clear hm2 hres
  have hv2 := hv.below hb2
  have hc2 := below_st hb2 hc1
  have hz2 := hb2.size
  have kk : ∀ o, w2.cell? ⟨w.heap.size, o, none⟩ = w1.cell? ⟨w.heap.size, o, none⟩ := fun o => hb2.cell (p := ⟨w.heap.size, o, none⟩) hz1
  have j0 := (kk 0).trans k0
  have j1 := (kk 1).trans k1
  have j2 := (kk 2).trans k2
  have hzz2 : w.heap.size < w2.heap.size := by omega
  have hyy : (y2 == y2) = true := by simp
  have HV := hide hv2; have HU := hide hu
  clear kk k0 k1 k2 hv hv2 hu hc1 hz1 hb2 hz2
  go_wp2_with fail
  go_region_held3 (fun w' => w'.cell? ⟨w.heap.size, 0, none⟩ = some (.int .i64 k) ∧ w'.cell? ⟨w.heap.size, 1, none⟩ = some (.int .i64 n) ∧ w'.cell? ⟨w.heap.size, 2, none⟩ = some (.string x) ∧ Below w2.heap.size w2 w' ∧ w.heap.size < w'.heap.size)
    (first
      | (refine ⟨by assumption, by assumption, by assumption, by first | assumption | exact Below.refl _ _ | ((repeat (first | exact Below.refl _ _ | assumption | refine Below.drew ?_ | refine below_drewN ?_ _ | refine Below.alloc ?_ (by first | omega | (simp; done) | (simp; omega)) _ | refine Below.setCell ?_ (by first | omega | (simp; done) | (simp; omega)) _)); done), by first | assumption | (simp; assumption)⟩)
      | (go_split_ands
         refine ⟨(hb'.cell (p := ⟨w.heap.size, 0, none⟩) (by first | assumption | (simp; assumption))).trans (by first | assumption | (simp; assumption)), (hb'.cell (p := ⟨w.heap.size, 1, none⟩) (by first | assumption | (simp; assumption))).trans (by first | assumption | (simp; assumption)), (hb'.cell (p := ⟨w.heap.size, 2, none⟩) (by first | assumption | (simp; assumption))).trans (by first | assumption | (simp; assumption)), below_st hb' (by first | assumption | ((repeat (first | exact Below.refl _ _ | assumption | refine Below.drew ?_ | refine below_drewN ?_ _ | refine Below.alloc ?_ (by first | omega | (simp; done) | (simp; omega)) _ | refine Below.setCell ?_ (by first | omega | (simp; done) | (simp; omega)) _)); done)), Nat.lt_of_lt_of_le (by first | assumption | (simp; assumption)) hb'.size⟩)
      | go_keep)
    (first
      | (go_at_call 8; (try go_split_ands); refine (HL1.out _ (HG.out.below (by first | assumption | ((repeat (first | exact Below.refl _ _ | assumption | refine Below.drew ?_ | refine below_drewN ?_ _ | refine Below.alloc ?_ (by first | omega | (simp; done) | (simp; omega)) _ | refine Below.setCell ?_ (by first | omega | (simp; done) | (simp; omega)) _)); done) | (refine below_st ?_ hc2; first | assumption | ((repeat (first | exact Below.refl _ _ | assumption | refine Below.drew ?_ | refine below_drewN ?_ _ | refine Below.alloc ?_ (by first | omega | (simp; done) | (simp; omega)) _ | refine Below.setCell ?_ (by first | omega | (simp; done) | (simp; omega)) _)); done))))).mono ?_; rintro e w' ⟨rfl, hb'⟩)
      | (go_at_call 9; (try go_split_ands); refine (HL2.out _ (HG.out.below (by first | assumption | ((repeat (first | exact Below.refl _ _ | assumption | refine Below.drew ?_ | refine below_drewN ?_ _ | refine Below.alloc ?_ (by first | omega | (simp; done) | (simp; omega)) _ | refine Below.setCell ?_ (by first | omega | (simp; done) | (simp; omega)) _)); done) | (refine below_st ?_ hc2; first | assumption | ((repeat (first | exact Below.refl _ _ | assumption | refine Below.drew ?_ | refine below_drewN ?_ _ | refine Below.alloc ?_ (by first | omega | (simp; done) | (simp; omega)) _ | refine Below.setCell ?_ (by first | omega | (simp; done) | (simp; omega)) _)); done))))).mono ?_; rintro e w' ⟨rfl, hb'⟩)
      | (go_at_call 10; (try go_split_ands); refine (ref22_SameRow_any A B us ca cb _ (HV.out.below (by first | assumption | ((repeat (first | exact Below.refl _ _ | assumption | refine Below.drew ?_ | refine below_drewN ?_ _ | refine Below.alloc ?_ (by first | omega | (simp; done) | (simp; omega)) _ | refine Below.setCell ?_ (by first | omega | (simp; done) | (simp; omega)) _)); done) | (refine below_st ?_ hc2; first | assumption | ((repeat (first | exact Below.refl _ _ | assumption | refine Below.drew ?_ | refine below_drewN ?_ _ | refine Below.alloc ?_ (by first | omega | (simp; done) | (simp; omega)) _ | refine Below.setCell ?_ (by first | omega | (simp; done) | (simp; omega)) _)); done)))) (HU.out.below (by first | assumption | ((repeat (first | exact Below.refl _ _ | assumption | refine Below.drew ?_ | refine below_drewN ?_ _ | refine Below.alloc ?_ (by first | omega | (simp; done) | (simp; omega)) _ | refine Below.setCell ?_ (by first | omega | (simp; done) | (simp; omega)) _)); done) | (refine below_st ?_ hc2; first | assumption | ((repeat (first | exact Below.refl _ _ | assumption | refine Below.drew ?_ | refine below_drewN ?_ _ | refine Below.alloc ?_ (by first | omega | (simp; done) | (simp; omega)) _ | refine Below.setCell ?_ (by first | omega | (simp; done) | (simp; omega)) _)); done)))) (by omega)).mono ?_; rintro e w' ⟨rfl, m', rfl⟩)
      | (go_at_call 5; (try go_split_ands); refine (law42_plain_any _ (HG.out.below (by first | assumption | ((repeat (first | exact Below.refl _ _ | assumption | refine Below.drew ?_ | refine below_drewN ?_ _ | refine Below.alloc ?_ (by first | omega | (simp; done) | (simp; omega)) _ | refine Below.setCell ?_ (by first | omega | (simp; done) | (simp; omega)) _)); done) | (refine below_st ?_ hc2; first | assumption | ((repeat (first | exact Below.refl _ _ | assumption | refine Below.drew ?_ | refine below_drewN ?_ _ | refine Below.alloc ?_ (by first | omega | (simp; done) | (simp; omega)) _ | refine Below.setCell ?_ (by first | omega | (simp; done) | (simp; omega)) _)); done))))).mono ?_; rintro e w' ⟨rfl, hb'⟩))
  all_goals
    (try go_split_ands)
    go_wp2
    go_ret
    exact ⟨rfl, by first | assumption | (refine below_st ?_ hc2; first | assumption | ((repeat (first | exact Below.refl _ _ | assumption | refine Below.drew ?_ | refine below_drewN ?_ _ | refine Below.alloc ?_ (by first | omega | (simp; done) | (simp; omega)) _ | refine Below.setCell ?_ (by first | omega | (simp; done) | (simp; omega)) _)); done))⟩
end Go.Proofs.YtajcddaahmbllaaDoor
