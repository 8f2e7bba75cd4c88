/- Contracts: civil.put, civil.Format. -/
import Derived.Test.YtajcddaahmbllaaDoorDigB
import Derived.Lib.SmallJoins
import Derived.Lib.SlBytesConst
set_option linter.unusedVariables false
set_option linter.unusedSimpArgs false
namespace Go.Proofs.YtajcddaahmbllaaDoor
open Go.RowKit
/-- A list with a piece written over. -/
def putL (l : Bytes) (o : Nat) (d : Bytes) : Bytes := l.take o ++ d ++ l.drop (o + d.length)
theorem putL_len (l : Bytes) (o : Nat) (d : Bytes) (h : o + d.length ≤ l.length) : (putL l o d).length = l.length := by
  unfold putL; simp; omega
theorem putL_nil (l : Bytes) (o : Nat) : putL l o [] = l := by unfold putL; simp
theorem putL_set (l : Bytes) (o : Nat) (d : Bytes) (c : UInt8) (h : o + 1 + d.length ≤ l.length) : (putL l (o + 1) d).set o c = putL l o (c :: d) := by
  unfold putL
  rw [List.take_succ_eq_append_getElem (by omega : o < l.length), List.append_assoc, List.append_assoc, List.set_append_right _ _ (by simp; omega)]
  rw [show o - (l.take o).length = 0 by simp; omega, List.append_assoc]
  simp [Nat.add_assoc, Nat.add_comm, Nat.add_left_comm]
/-- A block of bytes that a conversion made: marked behind its end. -/
abbrev bytesO (l : Bytes) : Obj := .cells (l.map byteV).toArray 5 (16, 17)
theorem bytes_cell {w : World} {g : Nat} {l : Bytes} (h : w.heap[g]? = some (bytesO l)) (i : Nat) (hi : i < l.length) : w.cell? ⟨g, i, none⟩ = some (byteV (l[i]'hi)) := by
  simp [World.cell?, h, hi]
theorem bytes_free {w : World} {g : Nat} {l : Bytes} (h : w.heap[g]? = some (bytesO l)) (i : Nat) (hi : i < 16) : w.frozen? ⟨g, i, none⟩ = false := by
  simp [World.frozen?, h]; omega
theorem bytes_set {w : World} {g i : Nat} {l : Bytes} {c : UInt8} {v : Value} (h : w.heap[g]? = some (bytesO l)) (hv : v = byteV c) : (w.setCell ⟨g, i, none⟩ v).heap[g]? = some (bytesO (l.set i c)) := by
  subst hv
  rw [Go.Joins.block_setCell h]
  simp [List.map_set]
set_option maxHeartbeats 4000000 in
theorem civil_put_any (g off k cap : Nat) (l : Bytes) (n : Int) (w : World) (hb : w.heap[g]? = some (bytesO l)) (ho : off + k ≤ l.length) (hk : k ≤ 4) (h0 : 0 ≤ n) (h1 : n ≤ 100000) (hl : l.length ≤ 16) :
    Calls Tryd.prog 42 #[.slice (some ⟨g, off, none⟩) k cap, .int .i64 n] w fun e w' => e = .returned (.tuple #[]) ∧ w'.heap[g]? = some (bytesO (putL l off (digK k n))) ∧ Below g w w' ∧ w'.heap.size = w.heap.size := by
  have HB := hide hb; clear hb
  go_enter Tryd.func42, Tryd.ntmps42
  go_wp2
  go_loopw [1, 4] (fun a i wr => ∃ (r q : Nat) (x : Int), r ≤ k ∧ i = .int .i64 ((r : Int) - 1) ∧ a = .int .i64 x ∧ 0 ≤ x ∧ x ≤ 100000 ∧ Hid (r + q = k ∧ x = n / 10 ^ q ∧ wr.heap[g]? = some (bytesO (putL l (off + r) (digK q n))) ∧ wr.heap.size = w.heap.size) ∧ Below g w wr) (fun _ i _ => (intOf i + 1).toNat)
  case atStart => exact ⟨k, 0, n, by omega, by go_num, rfl, h0, h1, ⟨by omega, by simp, by simp only [digK, putL_nil]; exact HB.out, rfl⟩, Below.refl _ _⟩
  case round =>
    obtain ⟨r, q, x, hr, rfl, rfl, hx0, hx1, HS, hbel⟩ := hrel
    by_cases hz : 0 < r
    · obtain ⟨j, rfl⟩ : ∃ j, r = j + 1 := ⟨r - 1, by omega⟩
      obtain ⟨e1, e2, e3, e4⟩ := HS.out
      have hlen : (putL l (off + (j + 1)) (digK q n)).length = l.length := putL_len _ _ _ (by rw [digK_len]; omega)
      obtain ⟨cv, hcell⟩ : ∃ cv, wr.cell? ⟨g, off + j, none⟩ = some cv := ⟨_, bytes_cell e3 (off + j) (by omega)⟩
      have hfr := bytes_free e3 (off + j) (by omega)
      have HN := hide (show ∀ v, v = byteV (dgt x) → ((wr.setCell ⟨g, off + j, none⟩ v).heap[g]? = some (bytesO (putL l (off + j) (digK (q + 1) n)))) from fun v hv => by
        rw [bytes_set e3 hv, show off + (j + 1) = off + j + 1 by omega, putL_set _ _ _ _ (by rw [digK_len]; omega), digK_cons, e2])
      have HX := hide (show j + (q + 1) = k ∧ x / 10 = n / 10 ^ (q + 1) from ⟨by omega, by rw [e2, Int.pow_succ, Int.ediv_ediv_of_nonneg (Int.pow_nonneg (by omega))]⟩)
      have HH := hide e4
      have hjk : j < k := by omega
      have HD := hide (dgt_nat x)
      rw [show (((j + 1 : Nat) : Int) - 1) = (j : Int) by omega]
      clear e1 e2 e3 e4 hlen HS hz
      go_wp2
      exact ⟨⟨j, q + 1, x / 10, by omega, by go_num, rfl, by omega, by omega, ⟨HX.out.1, HX.out.2, HN.out _ (by unfold byteV; rw [HD.out]), by simp; exact HH.out⟩, hbel.setCell (Nat.le_refl _) _⟩, by simp [intOf]⟩
    · obtain rfl : r = 0 := by omega
      rw [show (((0 : Nat) : Int) - 1) = -1 by omega]
      have HE := hide (show wr.heap[g]? = some (bytesO (putL l off (digK k n))) ∧ wr.heap.size = w.heap.size from by
        obtain ⟨e1, e2, e3, e4⟩ := HS.out
        rw [Nat.zero_add] at e1
        subst e1
        exact ⟨e3, e4⟩)
      clear HS
      go_wp2
      go_end0
      exact ⟨rfl, HE.out.1, hbel, HE.out.2⟩
theorem conv_block {w : World} {g c : Nat} {l : Bytes} (h : w.heap[g]? = some (bytesO l)) (n : Nat) (hn : n = l.length) : (convert 63 9 (.slice (some ⟨g, 0, none⟩) n c)).run Tryd.prog w = .ok (str l) w := by
  subst hn
  rw [run_convert_bytes_arg w 63 5 Tryd.underlying63 Tryd.underlying5 g 0 l.length c (l.map fun c => (c.toNat : Int)) (by simp) (fun i hi => ?_) 9 Tryd.underlying9, strOf_bytes]
  have hi' : i < l.length := by simpa using hi
  rw [Nat.zero_add, bytes_cell h i hi']
  simp [List.getD_eq_getElem?_getD, hi']
theorem put_all {a b c d e : Bytes} (ha : a.length = 4) (hb : b.length = 2) (hc : c.length = 2) (hd : d.length = 2) (he : e.length = 2) :
    putL (putL (putL (putL (putL timeForm 0 a) 5 b) 8 c) 11 d) 14 e = a ++ [45] ++ b ++ [45] ++ c ++ [84] ++ d ++ [58] ++ e := by
  match a, ha with
  | [a0, a1, a2, a3], _ =>
    match b, hb with
    | [b0, b1], _ =>
      match c, hc with
      | [c0, c1], _ =>
        match d, hd with
        | [d0, d1], _ =>
          match e, he with
          | [e0, e1], _ => rfl
set_option maxRecDepth 100000 in
set_option maxHeartbeats 4000000 in
theorem civil_Format_any (n : Int) (w : World) (hG : LenVar w 1) (h0 : 0 ≤ n) (h1 : n ≤ 575999999) : Calls Tryd.prog 24 #[.int .i64 n] w fun e w' => e = .returned (.tuple #[str (fmtS n), .int .i64 0]) ∧ Below w.heap.size w w' := by
  have HF := hide (fun k j d (g : GoodN (n / 1440) k j d) => fmtS_eq ⟨k, j, d, g, rfl⟩)
  have HG := hide hG; clear hG
  have kc := fun (w : World) (C : Array Value) (n c : Nat) => Lib.run_convert_bytes_const (P := Tryd.prog) w 63 5 C n c Tryd.underlying63 Tryd.underlying5
  go_enter Tryd.func24, Tryd.ntmps24
  go_wp2_with fail
  refine (civil_Date_any (n / 1440) _ HG.out (by omega) (by omega)).mono ?_
  rintro e w' ⟨⟨k, j, d, g, rfl⟩, rfl⟩
  have HFF := hide (HF.out k j d g)
  clear HF
  obtain ⟨g1, g2, g3, g4, g5⟩ := g
  have g6 := (lenM_bd (1970 + k) (1 + j)).2
  have g7 : d ≤ 31 := by omega
  clear g4 g5 g6
  have HL := hide (show timeForm.length = 16 from rfl)
  go_wp2_with fail
  refine (civil_put_any w.heap.size 0 4 16 timeForm (1970 + k) _ (heap_alloc_new w _) (by decide) (by omega) (by omega) (by omega) (by decide)).mono ?_
  rintro e w1 ⟨rfl, q1, b1, s1⟩
  have L1 := hide (putL_len timeForm 0 (digK 4 (1970 + k)) (by rw [digK_len]; decide))
  have B1 : Below w.heap.size w w1 := Below.trans (by (repeat (first | exact Below.refl _ _ | assumption | refine Below.drew ?_ | refine below_drewN ?_ _ | refine Below.alloc ?_ (by first | omega | (simp; done) | (simp; omega)) _ | refine Below.setCell ?_ (by first | omega | (simp; done) | (simp; omega)) _))) b1
  have S1 : w.heap.size < w1.heap.size := by rw [s1]; simp
  have Q1 := hide q1
  clear s1 b1 q1
  go_wp2_with fail
  refine (civil_put_any w.heap.size 5 2 11 _ (1 + j) _ Q1.out (by rw [L1.out]; decide) (by omega) (by omega) (by omega) (by rw [L1.out]; decide)).mono ?_
  rintro e w2 ⟨rfl, q2, b2, s2⟩
  have L2 := hide ((putL_len _ 5 (digK 2 (1 + j)) (by rw [digK_len, L1.out]; decide)).trans L1.out)
  have B2 := B1.trans b2
  have S2 : w.heap.size < w2.heap.size := by rw [s2]; exact S1
  have Q2 := hide q2
  clear s2 b2 q2
  go_wp2_with fail
  refine (civil_put_any w.heap.size 8 2 8 _ d _ Q2.out (by rw [L2.out]; decide) (by omega) (by omega) (by omega) (by rw [L2.out]; decide)).mono ?_
  rintro e w3 ⟨rfl, q3, b3, s3⟩
  have L3 := hide ((putL_len _ 8 (digK 2 d) (by rw [digK_len, L2.out]; decide)).trans L2.out)
  have B3 := B2.trans b3
  have S3 : w.heap.size < w3.heap.size := by rw [s3]; exact S2
  have Q3 := hide q3
  clear s3 b3 q3
  go_wp2_with fail
  refine (civil_put_any w.heap.size 11 2 5 _ (n / 60 % 24) _ Q3.out (by rw [L3.out]; decide) (by omega) (by omega) (by omega) (by rw [L3.out]; decide)).mono ?_
  rintro e w4 ⟨rfl, q4, b4, s4⟩
  have L4 := hide ((putL_len _ 11 (digK 2 (n / 60 % 24)) (by rw [digK_len, L3.out]; decide)).trans L3.out)
  have B4 := B3.trans b4
  have S4 : w.heap.size < w4.heap.size := by rw [s4]; exact S3
  have Q4 := hide q4
  clear s4 b4 q4
  go_wp2_with fail
  refine (civil_put_any w.heap.size 14 2 2 _ (n % 60) _ Q4.out (by rw [L4.out]; decide) (by omega) (by omega) (by omega) (by rw [L4.out]; decide)).mono ?_
  rintro e w5 ⟨rfl, q5, b5, s5⟩
  have L5 := (putL_len _ 14 (digK 2 (n % 60)) (by rw [digK_len, L4.out]; decide)).trans L4.out
  have B5 := B4.trans b5
  have HE := hide (put_all (digK_len 4 (1970 + k)) (digK_len 2 (1 + j)) (digK_len 2 d) (digK_len 2 (n / 60 % 24)) (digK_len 2 (n % 60)))
  have hcv := conv_block (c := 16) q5 16 (L5.trans (by decide)).symm
  clear s5 b5 q5 L5
  rw [HE.out] at hcv
  rw [← HFF.out] at hcv
  go_wp2
  go_ret2
  exact ⟨rfl, B5⟩
end Go.Proofs.YtajcddaahmbllaaDoor
