/- Contracts: ref3.Format, ref7.Moment, ref7.Quote. -/
import Derived.Test.YtedjahbieheeoaaDoorDat
import Derived.Test.YtedjahbieheeoaaDoorValG
import Derived.Test.YtedjahbieheeoaaDoorRefC
set_option linter.unusedVariables false
set_option linter.unusedSimpArgs false
namespace Go.Proofs.YtedjahbieheeoaaDoor
open Go.RowKit
theorem padded4 (n : Int) (w : World) (h0 : 0 ≤ n) (h1 : n < 10000) : Calls Tryd.prog 98 #[.int .i64 n, .int .i64 4] w fun e w' => e = .returned (str (digK 4 n)) ∧ Below w.heap.size w w' :=
  ref3_padded_any n 4 w h0 h1 (by omega)
theorem padded2 (n : Int) (w : World) (h0 : 0 ≤ n) (h1 : n < 100) : Calls Tryd.prog 98 #[.int .i64 n, .int .i64 2] w fun e w' => e = .returned (str (digK 2 n)) ∧ Below w.heap.size w w' :=
  ref3_padded_any n 2 w h0 h1 (by omega)
theorem below_st {w w1 w2 : World} (h2 : Below w1.heap.size w1 w2) (h : Below w.heap.size w w1) : Below w.heap.size w w2 := h.trans (h2.mono h.size)
set_option maxHeartbeats 4000000 in
theorem ref3_Format_any (n : Int) (w : World) (h0 : 0 ≤ n) (h1 : n ≤ 575999999) : Calls Tryd.prog 76 #[.int .i64 n] w fun e w' => e = .returned (.tuple #[str (fmtS n), .int .i64 0]) ∧ Below w.heap.size w w' := by
  have HF := hide (fun k j d (g : GoodN (n / 1440) k j d) => fmtS_eq ⟨k, j, d, g, rfl⟩)
  have h24 : n % 1440 / 60 = n / 60 % 24 := by omega
  rw [← h24] at HF
  clear h24
  go_enter Tryd.func76, Tryd.ntmps76
  go_wp2_with fail
  refine (ref3_Date_any (n / 1440) _ (by omega) (by omega)).mono ?_
  rintro e w' ⟨⟨k, j, d, g, rfl⟩, rfl⟩
  have HFF := hide (HF.out k j d g)
  clear HF
  obtain ⟨g1, g2, g3, g4, g5⟩ := g
  have g6 := (lenM_bd (1970 + k) (1 + j)).2
  have g7 : d ≤ 31 := by omega
  clear g4 g5 g6
  go_wp2_with fail
  refine (padded4 (1970 + k) _ (by omega) (by omega)).mono ?_
  rintro e w1 ⟨rfl, hb1⟩
  have l1 := digK_len 4 (1970 + k)
  generalize digK 4 (1970 + (k : Int)) = t1 at *
  have l1' : t1.length ≤ 4 := by omega
  clear l1
  go_wp2_with fail
  refine (padded2 (1 + j) _ (by omega) (by omega)).mono ?_
  rintro e w2 ⟨rfl, hb2⟩
  have hc2 := below_st hb2 hb1
  have l2 := digK_len 2 (1 + j)
  generalize digK 2 (1 + (j : Int)) = t2 at *
  have l2' : t2.length ≤ 4 := by omega
  clear l2 hb1 hb2
  go_wp2_with fail
  refine (padded2 d _ (by omega) (by omega)).mono ?_
  rintro e w3 ⟨rfl, hb3⟩
  have hc3 := below_st hb3 hc2
  have l3 := digK_len 2 d
  generalize digK 2 d = t3 at *
  have l3' : t3.length ≤ 4 := by omega
  clear l3 hb3
  go_wp2_with fail
  refine (padded2 (n % 1440 / 60) _ (by omega) (by omega)).mono ?_
  rintro e w4 ⟨rfl, hb4⟩
  have hc4 := below_st hb4 hc3
  have l4 := digK_len 2 (n % 1440 / 60)
  generalize digK 2 (n % 1440 / 60) = t4 at *
  have l4' : t4.length ≤ 4 := by omega
  clear l4 hb4
  go_wp2_with fail
  refine (padded2 (n % 60) _ (by omega) (by omega)).mono ?_
  rintro e w5 ⟨rfl, hb5⟩
  have hc5 := below_st hb5 hc4
  have l5 := digK_len 2 (n % 60)
  generalize digK 2 (n % 60) = t5 at *
  have l5' : t5.length ≤ 4 := by omega
  clear l5 hb5
  go_wp2
  go_ret2
  refine ⟨?_, hc5⟩
  rw [HFF.out]
  simp [ba_append]
set_option maxHeartbeats 4000000 in
theorem ref7_Moment_any (n : Int) (w : World) (h0 : 0 ≤ n) (h1 : n ≤ 575999999) : Calls Tryd.prog 50 #[.int .i64 n] w fun e w' => e = .returned (str (64 :: fmtS n)) ∧ Below w.heap.size w w' := by
  have hl := fmtS_len h0 h1
  have HC := hide (fun W => ref3_Format_any n W h0 h1)
  generalize fmtS n = t at *
  have hl2 : t.length ≤ 20 := by omega
  clear hl
  go_enter Tryd.func50, Tryd.ntmps50
  go_wp2_with fail
  refine (HC.out _).mono ?_
  rintro e w1 ⟨rfl, hb1⟩
  go_wp2
  go_ret
  exact ⟨by simp [ba_append], hb1⟩
/-! ### quoted texts -/
def qByte (c : UInt8) : Bytes := if c.toNat = 39 then [39, 39] else [c]
def quoteS (l : Bytes) : Bytes := 39 :: (l.flatMap qByte ++ [39])
theorem quote_len (l : Bytes) : (l.flatMap qByte).length ≤ 2 * l.length := by
  induction l with
  | nil => simp
  | cons c l ih =>
    rw [List.flatMap_cons, List.length_append, List.length_cons]
    have : (qByte c).length ≤ 2 := by unfold qByte; split <;> simp
    omega
theorem quote_snoc (s : ByteArray) (k : Nat) (h : k < s.size) : ((bs s).take (k + 1)).flatMap qByte = ((bs s).take k).flatMap qByte ++ qByte s[k] := by
  rw [take_snoc s k h, List.flatMap_append]; simp
theorem cells_one {W : World} {B : Nat} {a : Value} {t : TypeId} (h : W.heap[B]? = some (.cells #[a] t)) : ∀ (j : Nat) (u : Value), [a][j]? = some u → W.cell? ((⟨B, 0, none⟩ : Addr).add j) = some u := by
  intro j u hu
  have e : (⟨B, 0, none⟩ : Addr).add j = ⟨B, j, none⟩ := by unfold Addr.add; split <;> simp_all
  rw [e, cell_of_heap h]
  simpa using hu
theorem own_cons (w : World) (v : Value) : (w.alloc (.cells #[v] 5)).ownsRow w.heap.size 5 1 (.slice (some ⟨w.heap.size, 0, none⟩) 1 1) 1 [v] :=
  ⟨by simp, .inr ⟨w.heap.size, 1, #[v], rfl, Nat.le_refl _, heap_alloc_new w _, by omega, by decide, by simp, by simp⟩⟩
theorem bv39 : byteV 39 = .int .u8 39 := rfl
set_option maxRecDepth 100000 in
set_option maxHeartbeats 4000000 in
theorem ref7_Quote_any (s : ByteArray) (w : World) (hs : s.size ≤ 100000) : Calls Tryd.prog 49 #[.string s] w fun e w' => e = .returned (str (quoteS (bs s))) ∧ Below w.heap.size w w' := by
  obtain ⟨i0, hi, hz0, hz1, hz2⟩ := info_parts Tryd.info_u8
  go_enter Tryd.func49, Tryd.ntmps49
  go_wp2
  go_loopw [3, 4] (fun v i wr => ∃ (k : Nat) (b : Bytes) (A : Option Addr) (c : Nat), v = .slice A b.length c ∧ i = .int .i64 k ∧ k ≤ s.size ∧ Hid (b = 39 :: ((bs s).take k).flatMap qByte) ∧ b.length ≤ 2 * k + 1 ∧
        wr.ownsRow w.heap.size 5 1 (.slice A b.length c) b.length (b.map byteV) ∧ Below w.heap.size w wr) (fun _ i _ => s.size - (intOf i).toNat)
  case atStart => exact ⟨0, [39], _, _, rfl, rfl, by omega, rfl, by simp, own_cons w _, by (repeat (first | exact Below.refl _ _ | assumption | refine Below.drew ?_ | refine below_drewN ?_ _ | refine Below.alloc ?_ (by first | omega | (simp; done) | (simp; omega)) _ | refine Below.setCell ?_ (by first | omega | (simp; done) | (simp; omega)) _))⟩
  case round =>
    obtain ⟨k, b, A, c, rfl, rfl, hk, HB, hbl, hown, hbel⟩ := hrel
    have hsz := hbel.size
    by_cases hlt : k < s.size
    · by_cases h39 : s[k].toNat = 39
      · have h39' : ((s[k].toNat : Int) == 39) = true := by simp; omega
        have HB2 := hide (show b ++ [39] ++ [s[k]] = 39 :: ((bs s).take (k + 1)).flatMap qByte by
          have he : s[k] = 39 := by apply UInt8.toNat_inj.1; rw [h39]; rfl
          rw [quote_snoc s k hlt, HB.out, show qByte s[k] = [39, 39] by unfold qByte; rw [if_pos h39], he]; simp)
        clear h39
        have tok1 : True := trivial
        go_wp2_with (first
          | (at_builtin; have _t := tok1; refine wpList_append_own _ rfl _ _ 27 rfl w.heap.size 5 i0 (.int .u8 0) 1 1 Tryd.underlying27 hi hz0 hz1 hz2 rfl (by decide) _ _ _ rfl (hown.alloc _) ⟨wr.heap.size, 0, none⟩ 1 1 [.int .u8 39] rfl rfl (cell_one_new _ _ _) (by simp [Value.oneCell']) (by unfold maxLen; omega) (by omega) (by simp; omega) ?_; intro v1 w1 hown1 hgrow1 _; clear tok1; have hs1 := hgrow1.size; simp at hs1; have hb1 := push_below hbel hown hgrow1 (by omega); obtain ⟨A1, c1, rfl⟩ := own_form hown1)
          | (at_builtin; refine wpList_append_own _ rfl _ _ 27 rfl w.heap.size 5 i0 (.int .u8 0) 1 1 Tryd.underlying27 hi hz0 hz1 hz2 rfl (by decide) _ _ _ rfl (hown1.alloc _) ⟨w1.heap.size, 0, none⟩ 1 1 [byteV s[k]] rfl rfl (cell_one_new _ _ _) (by simp [Value.oneCell']) (by unfold maxLen; omega) (by omega) (by simp; omega) ?_; intro v2 w2 hown2 hgrow2 _))
        have hb2 := push_below hb1 hown1 hgrow2 (by omega)
        obtain ⟨A2, c2, rfl⟩ := own_form hown2
        exact ⟨⟨k + 1, b ++ [39] ++ [s[k]], A2, c2, by simp, by go_num, by omega, HB2, by simp; omega, by (have h := hown2; simp only [List.length_append, List.length_cons, List.length_nil, List.map_append, List.map_cons, List.map_nil, List.append_assoc, Nat.add_assoc, Nat.zero_add, List.cons_append, List.nil_append] at h ⊢; exact h), hb2⟩, by simp [intOf]; omega⟩
      · have h39' : ((s[k].toNat : Int) == 39) = false := by simp; omega
        have HB2 := hide (show b ++ [s[k]] = 39 :: ((bs s).take (k + 1)).flatMap qByte by
          rw [quote_snoc s k hlt, HB.out, show qByte s[k] = [s[k]] by unfold qByte; rw [if_neg h39]]; simp)
        clear h39
        go_wp2_with (at_builtin; refine wpList_append_own _ rfl _ _ 27 rfl w.heap.size 5 i0 (.int .u8 0) 1 1 Tryd.underlying27 hi hz0 hz1 hz2 rfl (by decide) _ _ _ rfl (hown.alloc _) ⟨wr.heap.size, 0, none⟩ 1 1 [byteV s[k]] rfl rfl (cell_one_new _ _ _) (by simp [Value.oneCell']) (by unfold maxLen; omega) (by omega) (by simp; omega) ?_; intro v1 w1 hown1 hgrow1 _)
        have hb2 := push_below hbel hown hgrow1 (by omega)
        obtain ⟨A2, c2, rfl⟩ := own_form hown1
        exact ⟨⟨k + 1, b ++ [s[k]], A2, c2, by simp, by go_num, by omega, HB2, by simp; omega, by simpa using hown1, hb2⟩, by simp [intOf]; omega⟩
    · obtain rfl : k = s.size := by omega
      have HE := hide (show b ++ [39] = quoteS (bs s) by
        have := HB.out
        rw [List.take_of_length_le (by rw [bs_length]; omega)] at this
        rw [this]; rfl)
      go_wp2_with (at_builtin; refine wpList_append_own _ rfl _ _ 27 rfl w.heap.size 5 i0 (.int .u8 0) 1 1 Tryd.underlying27 hi hz0 hz1 hz2 rfl (by decide) _ _ _ rfl (hown.alloc _) ⟨wr.heap.size, 0, none⟩ 1 1 [.int .u8 39] rfl rfl (cell_one_new _ _ _) (by simp [Value.oneCell']) (by unfold maxLen; omega) (by omega) (by simp; omega) ?_; intro v1 w1 hown1 hgrow1 _; have hb1 := push_below hbel hown hgrow1 (by omega); obtain ⟨A1, c1, rfl⟩ := own_form hown1; have hcv := run_conv_own (P := Tryd.prog) (w := w1) (dst := 9) (b := b ++ [39]) (A := A1) (n := b.length + 1) (c := c1) Tryd.underlying27 Tryd.underlying5 Tryd.underlying9 (by have h := hown1; simp only [List.length_append, List.length_cons, List.length_nil, List.map_append, List.map_cons, List.map_nil, Nat.zero_add] at h ⊢; exact h))
      go_ret
      exact ⟨by rw [← HE.out]; rfl, hb1⟩
end Go.Proofs.YtedjahbieheeoaaDoor
