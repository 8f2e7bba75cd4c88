/- Contracts: ref3.Format, ref7.Moment, ref7.Quote. -/
import Derived.Test.YtajcddaahmbllaaDoorDat
import Derived.Test.YtajcddaahmbllaaDoorValG
import Derived.Test.YtajcddaahmbllaaDoorRefC
set_option linter.unusedVariables false
set_option linter.unusedSimpArgs false
namespace Go.Proofs.YtajcddaahmbllaaDoor
open Go.RowKit
theorem padded4 (n : Int) (w : World) (h0 : 0 ≤ n) (h1 : n < 10000) : Calls Tryd.prog 44 #[.int .i64 n, .int .i64 4] w fun e w' => e = .returned (str (digK 4 n)) ∧ Below w.heap.size w w' :=
  ref3_padded_any n 4 w h0 h1 (by omega)
theorem padded2 (n : Int) (w : World) (h0 : 0 ≤ n) (h1 : n < 100) : Calls Tryd.prog 44 #[.int .i64 n, .int .i64 2] w fun e w' => e = .returned (str (digK 2 n)) ∧ Below w.heap.size w w' :=
  ref3_padded_any n 2 w h0 h1 (by omega)
theorem below_st {w w1 w2 : World} (h2 : Below w1.heap.size w1 w2) (h : Below w.heap.size w w1) : Below w.heap.size w w2 := h.trans (h2.mono h.size)
set_option maxHeartbeats 4000000 in
theorem ref3_Format_any (n : Int) (w : World) (h0 : 0 ≤ n) (h1 : n ≤ 575999999) : Calls Tryd.prog 26 #[.int .i64 n] w fun e w' => e = .returned (.tuple #[str (fmtS n), .int .i64 0]) ∧ Below w.heap.size w w' := by
  have HF := hide (fun k j d (g : GoodN (n / 1440) k j d) => fmtS_eq ⟨k, j, d, g, rfl⟩)
  have h24 : n % 1440 / 60 = n / 60 % 24 := by omega
  rw [← h24] at HF
  clear h24
  go_enter Tryd.func26, Tryd.ntmps26
  go_wp2_with fail
  refine (ref3_Date_any (n / 1440) _ (by omega) (by omega)).mono ?_
  rintro e w' ⟨⟨k, j, d, g, rfl⟩, rfl⟩
  have HFF := hide (HF.out k j d g)
  clear HF
  obtain ⟨g1, g2, g3, g4, g5⟩ := g
  have g6 := (lenM_bd (1970 + k) (1 + j)).2
  have g7 : d ≤ 31 := by omega
  clear g4 g5 g6
  go_wp2_with fail
  refine (padded4 (1970 + k) _ (by omega) (by omega)).mono ?_
  rintro e w1 ⟨rfl, hb1⟩
  have l1 := digK_len 4 (1970 + k)
  generalize digK 4 (1970 + (k : Int)) = t1 at *
  have l1' : t1.length ≤ 4 := by omega
  clear l1
  go_wp2_with fail
  refine (padded2 (1 + j) _ (by omega) (by omega)).mono ?_
  rintro e w2 ⟨rfl, hb2⟩
  have hc2 := below_st hb2 hb1
  have l2 := digK_len 2 (1 + j)
  generalize digK 2 (1 + (j : Int)) = t2 at *
  have l2' : t2.length ≤ 4 := by omega
  clear l2 hb1 hb2
  go_wp2_with fail
  refine (padded2 d _ (by omega) (by omega)).mono ?_
  rintro e w3 ⟨rfl, hb3⟩
  have hc3 := below_st hb3 hc2
  have l3 := digK_len 2 d
  generalize digK 2 d = t3 at *
  have l3' : t3.length ≤ 4 := by omega
  clear l3 hb3
  go_wp2_with fail
  refine (padded2 (n % 1440 / 60) _ (by omega) (by omega)).mono ?_
  rintro e w4 ⟨rfl, hb4⟩
  have hc4 := below_st hb4 hc3
  have l4 := digK_len 2 (n % 1440 / 60)
  generalize digK 2 (n % 1440 / 60) = t4 at *
  have l4' : t4.length ≤ 4 := by omega
  clear l4 hb4
  go_wp2_with fail
  refine (padded2 (n % 60) _ (by omega) (by omega)).mono ?_
  rintro e w5 ⟨rfl, hb5⟩
  have hc5 := below_st hb5 hc4
  have l5 := digK_len 2 (n % 60)
  generalize digK 2 (n % 60) = t5 at *
  have l5' : t5.length ≤ 4 := by omega
  clear l5 hb5
  go_wp2
  go_ret2
  refine ⟨?_, hc5⟩
  rw [HFF.out]
  simp [ba_append]
/-! ### quoted texts -/
def qByte (c : UInt8) : Bytes := if c.toNat = 39 then [39, 39] else [c]
def quoteS (l : Bytes) : Bytes := 39 :: (l.flatMap qByte ++ [39])
theorem quote_len (l : Bytes) : (l.flatMap qByte).length ≤ 2 * l.length := by
  induction l with
  | nil => simp
  | cons c l ih =>
    rw [List.flatMap_cons, List.length_append, List.length_cons]
    have : (qByte c).length ≤ 2 := by unfold qByte; split <;> simp
    omega
theorem quote_snoc (s : ByteArray) (k : Nat) (h : k < s.size) : ((bs s).take (k + 1)).flatMap qByte = ((bs s).take k).flatMap qByte ++ qByte s[k] := by
  rw [take_snoc s k h, List.flatMap_append]; simp
theorem cells_one {W : World} {B : Nat} {a : Value} {t : TypeId} (h : W.heap[B]? = some (.cells #[a] t)) : ∀ (j : Nat) (u : Value), [a][j]? = some u → W.cell? ((⟨B, 0, none⟩ : Addr).add j) = some u := by
  intro j u hu
  have e : (⟨B, 0, none⟩ : Addr).add j = ⟨B, j, none⟩ := by unfold Addr.add; split <;> simp_all
  rw [e, cell_of_heap h]
  simpa using hu
theorem own_cons (w : World) (v : Value) : (w.alloc (.cells #[v] 5)).ownsRow w.heap.size 5 1 (.slice (some ⟨w.heap.size, 0, none⟩) 1 1) 1 [v] :=
  ⟨by simp, .inr ⟨w.heap.size, 1, #[v], rfl, Nat.le_refl _, heap_alloc_new w _, by omega, by decide, by simp, by simp⟩⟩
theorem bv39 : byteV 39 = .int .u8 39 := rfl
end Go.Proofs.YtajcddaahmbllaaDoor
