/- Plain: the date of a day number, its text, and that they determine each other. No program in sight. Contracts: civil.Date, ref3.Date. Contracts: ref3.padded, ref7.Number. -/
import Derived.Test.YtajcddaahmbllaaDoorCivB
import Derived.Test.YtajcddaahmbllaaDoorGlob
import Derived.Test.YtajcddaahmbllaaDoorTokD
import Derived.Test.YtajcddaahmbllaaDoorShelf
set_option linter.unusedVariables false
set_option linter.unusedSimpArgs false
namespace Go.Proofs.YtajcddaahmbllaaDoor
open Go.RowKit
theorem sumY_succ (k : Nat) : sumY (k + 1) = sumY k + yearD (1970 + k) := rfl
theorem sumM_succ (y : Int) (k : Nat) : sumM y (k + 1) = sumM y k + lenM y (1 + k) := rfl
theorem sumM_12 (y : Int) : sumM y 12 = yearD y := by
  simp only [sumM, lenM, yearD]
  cases leapB y <;> rfl
theorem sumY_mono (a : Nat) : ∀ b : Nat, sumY a ≤ sumY (a + b)
  | 0 => Int.le_refl _
  | b + 1 => by
    have := sumY_mono a b
    have h := yearD_bd (1970 + ((a + b : Nat) : Int))
    rw [← Nat.add_assoc, sumY_succ]; omega
theorem sumM_mono (y : Int) (a : Nat) : ∀ b : Nat, sumM y a ≤ sumM y (a + b)
  | 0 => Int.le_refl _
  | b + 1 => by
    have := sumM_mono y a b
    have h := lenM_bd y (1 + ((a + b : Nat) : Int))
    rw [← Nat.add_assoc, sumM_succ]; omega
theorem sumY_le {a b : Nat} (h : a ≤ b) : sumY a ≤ sumY b := by
  obtain ⟨c, rfl⟩ := Nat.exists_eq_add_of_le h; exact sumY_mono a c
theorem sumM_le (y : Int) {a b : Nat} (h : a ≤ b) : sumM y a ≤ sumM y b := by
  obtain ⟨c, rfl⟩ := Nat.exists_eq_add_of_le h; exact sumM_mono y a c
/-- y = 1970 + k, month 1 + j, day d of the day number n. -/
def GoodN (n : Int) (k j : Nat) (d : Int) : Prop := k ≤ 1095 ∧ j < 12 ∧ 1 ≤ d ∧ d ≤ lenM (1970 + k) (1 + j) ∧ d - 1 + sumY k + sumM (1970 + k) j = n
theorem GoodN_lt {n : Int} {k j : Nat} {d : Int} (h : GoodN n k j d) : sumY k ≤ n ∧ n < sumY (k + 1) ∧ sumY k + sumM (1970 + k) j ≤ n ∧ n < sumY k + sumM (1970 + k) (j + 1) := by
  obtain ⟨h1, h2, h3, h4, h5⟩ := h
  have a := sumM_le (1970 + (k : Int)) (Nat.zero_le j)
  have a0 : sumM (1970 + (k : Int)) 0 = 0 := rfl
  have b := sumM_le (1970 + (k : Int)) (show j + 1 ≤ 12 by omega)
  rw [sumM_12, sumM_succ] at b
  rw [sumY_succ, sumM_succ]
  omega
theorem GoodN_unique {n : Int} {k j k' j' : Nat} {d d' : Int} (h : GoodN n k j d) (h' : GoodN n k' j' d') : k = k' ∧ j = j' ∧ d = d' := by
  obtain ⟨a1, a2, a3, a4⟩ := GoodN_lt h
  obtain ⟨b1, b2, b3, b4⟩ := GoodN_lt h'
  have ek : k = k' := by
    rcases Nat.lt_trichotomy k k' with hl | hl | hl
    · have := sumY_le (show k + 1 ≤ k' by omega); omega
    · exact hl
    · have := sumY_le (show k' + 1 ≤ k by omega); omega
  subst ek
  have ej : j = j' := by
    rcases Nat.lt_trichotomy j j' with hl | hl | hl
    · have := sumM_le (1970 + (k : Int)) (show j + 1 ≤ j' by omega); omega
    · exact hl
    · have := sumM_le (1970 + (k : Int)) (show j' + 1 ≤ j by omega); omega
  subst ej
  have := h.2.2.2.2
  have := h'.2.2.2.2
  exact ⟨rfl, rfl, by omega⟩
theorem between (f : Nat → Int) (n : Int) (h0 : f 0 ≤ n) : ∀ m : Nat, n < f m → ∃ k, k < m ∧ f k ≤ n ∧ n < f (k + 1)
  | 0, h => by omega
  | m + 1, h => by
    by_cases hm : n < f m
    · obtain ⟨k, h1, h2, h3⟩ := between f n h0 m hm
      exact ⟨k, by omega, h2, h3⟩
    · exact ⟨m, by omega, by omega, h⟩
theorem GoodN_exists {n : Int} (h0 : 0 ≤ n) (h1 : n ≤ 400000) : ∃ k j d, GoodN n k j d := by
  obtain ⟨k, k1, k2, k3⟩ := between sumY n h0 1096 (by have := (sumY_bd 1096).1; omega)
  rw [sumY_succ, ← sumM_12] at k3
  obtain ⟨j, j1, j2, j3⟩ := between (fun j => sumY k + sumM (1970 + k) j) n (by show sumY k + 0 ≤ n; omega) 12 k3
  rw [sumM_succ] at j3
  exact ⟨k, j, n - sumY k - sumM (1970 + k) j + 1, by omega, j1, by omega, by omega, by omega⟩

/-! ### the text -/
/-- The last k decimal digits of a number. -/
def digK : Nat → Int → Bytes
  | 0, _ => []
  | k + 1, n => digK k (n / 10) ++ [UInt8.ofNat (48 + (n % 10).toNat)]
theorem digK_len : ∀ (k : Nat) (n : Int), (digK k n).length = k
  | 0, _ => rfl
  | k + 1, n => by simp [digK, digK_len k]
def Fmt (n : Int) (l : Bytes) : Prop := ∃ (k j : Nat) (d : Int), GoodN (n / 1440) k j d ∧ l = digK 4 (1970 + k) ++ [45] ++ digK 2 (1 + j) ++ [45] ++ digK 2 d ++ [84] ++ digK 2 (n / 60 % 24) ++ [58] ++ digK 2 (n % 60)
open Classical in
/-- The text of a number of minutes. -/
noncomputable def fmtS (n : Int) : Bytes := if h : ∃ l, Fmt n l then h.choose else []
theorem Fmt_unique {n : Int} {l l' : Bytes} (h : Fmt n l) (h' : Fmt n l') : l = l' := by
  obtain ⟨k, j, d, g, rfl⟩ := h
  obtain ⟨k', j', d', g', rfl⟩ := h'
  obtain ⟨rfl, rfl, rfl⟩ := GoodN_unique g g'
  rfl
theorem fmtS_eq {n : Int} {l : Bytes} (h : Fmt n l) : fmtS n = l := by
  have hx : ∃ l, Fmt n l := ⟨l, h⟩
  unfold fmtS
  rw [dif_pos hx]
  exact Fmt_unique hx.choose_spec h
theorem Fmt_len {n : Int} {l : Bytes} (h : Fmt n l) : l.length = 16 := by
  obtain ⟨k, j, d, g, rfl⟩ := h
  simp [digK_len]
theorem fmtS_len {n : Int} (h0 : 0 ≤ n) (h1 : n ≤ 575999999) : (fmtS n).length = 16 := by
  obtain ⟨k, j, d, g⟩ := GoodN_exists (n := n / 1440) (by omega) (by omega)
  have := fmtS_eq ⟨k, j, d, g, rfl⟩
  rw [this, Fmt_len ⟨k, j, d, g, rfl⟩]
end Go.Proofs.YtajcddaahmbllaaDoor

namespace Go.Proofs.YtajcddaahmbllaaDoor
open Go.RowKit
def DateRes (n : Int) (e : Ending) : Prop := ∃ (k j : Nat) (d : Int), GoodN n k j d ∧ e = .returned (.tuple #[.int .i64 (1970 + k), .int .i64 (1 + j), .int .i64 d, .bool true])
set_option maxHeartbeats 4000000 in
theorem ref3_Date_any (n : Int) (w : World) (h0 : 0 ≤ n) (h1 : n ≤ 400000) : Calls Tryd.prog 43 #[.int .i64 n] w fun e w' => DateRes n e ∧ w = w' := by
  go_enter Tryd.func43, Tryd.ntmps43
  go_wp2
  go_loop [0, 2, 3] (fun r y m => ∃ (k j : Nat) (x : Int), r = .int .i64 x ∧ y = .int .i64 (1970 + k) ∧ m = .int .i64 (1 + j) ∧ j < 12 ∧ 0 ≤ x ∧ x ≤ 400000 ∧ k ≤ 1095 ∧ Hid (x + sumY k + sumM (1970 + k) j = n)) (fun r _ _ => (intOf r).toNat)
  case atStart => exact ⟨0, 0, n, rfl, rfl, rfl, by omega, h0, h1, by omega, by show n + 0 + 0 = n; omega⟩
  case round =>
    obtain ⟨k, j, x, rfl, rfl, rfl, hj, hx0, hx1, hk, HS⟩ := hrel
    have hl := lenM_bd (1970 + k) (1 + j)
    have HL := hide (fun W => ref3_length_any (1970 + k) (1 + j) W (by omega) (by omega) (by omega))
    by_cases hlt : lenM (1970 + k) (1 + j) ≤ x
    · have HN := hide (show j + 1 < 12 → x - lenM (1970 + k) (1 + j) + sumY k + sumM (1970 + k) (j + 1) = n from fun _ => by
        have := HS.out; rw [sumM_succ]; omega)
      have HN2 := hide (show j + 1 = 12 → x - lenM (1970 + k) (1 + j) + sumY (k + 1) + sumM (1970 + ((k + 1 : Nat) : Int)) 0 = n ∧ k + 1 ≤ 1095 from fun e => by
        have h := HS.out
        have h2 : sumY k + sumM (1970 + k) j + lenM (1970 + k) (1 + j) = sumY (k + 1) := by
          rw [sumY_succ, ← sumM_12, ← e, sumM_succ]; omega
        have h3 := (sumY_bd (k + 1)).1
        refine ⟨?_, by omega⟩
        show _ + _ + 0 = n
        omega)
      generalize lenM (1970 + k) (1 + j) = L at *
      by_cases hj2 : j + 1 < 12
      · have HN3 := hide (HN.out hj2)
        go_wp2_with (go_at_call 70; refine (HL.out _).mono ?_; rintro e w' ⟨rfl, rfl⟩)
        go_round
        case rel => exact ⟨k, j + 1, x - L, rfl, rfl, by go_num, hj2, by omega, by omega, hk, HN3⟩
        case measure => simp [intOf]; omega
      · obtain ⟨hn1, hn2⟩ := HN2.out (by omega)
        have HN3 := hide hn1
        clear hn1
        go_wp2_with (go_at_call 70; refine (HL.out _).mono ?_; rintro e w' ⟨rfl, rfl⟩)
        go_round
        case rel => exact ⟨k + 1, 0, x - L, rfl, by go_num, rfl, by omega, by omega, by omega, hn2, HN3⟩
        case measure => simp [intOf]; omega
    · have HR := hide (show GoodN n k j (x + 1) from ⟨hk, hj, by omega, by omega, by have := HS.out; omega⟩)
      generalize lenM (1970 + k) (1 + j) = L at *
      go_wp2_with (go_at_call 70; refine (HL.out _).mono ?_; rintro e w' ⟨rfl, rfl⟩)
      refine bodyPost_ret (v := .tuple #[.int .i64 (1970 + k), .int .i64 (1 + j), .int .i64 (x + 1), .bool true]) (by simp [results, Tryd.results43, go_sem]) rfl ⟨⟨k, j, x + 1, HR.out, rfl⟩, rfl⟩
set_option maxHeartbeats 4000000 in
theorem civil_Date_any (n : Int) (w : World) (hG : LenVar w 1) (h0 : 0 ≤ n) (h1 : n ≤ 400000) : Calls Tryd.prog 41 #[.int .i64 n] w fun e w' => DateRes n e ∧ w = w' := by
  have HG := hide hG; clear hG
  go_enter Tryd.func41, Tryd.ntmps41
  go_wp2
  go_step3
  go_wp2
  go_step3
  go_wp2
  go_loop [2, 6] (fun y r => ∃ (k : Nat) (x : Int), r = .int .i64 x ∧ y = .int .i64 (1970 + k) ∧ 0 ≤ x ∧ x ≤ 400000 ∧ k ≤ 1095 ∧ Hid (x + sumY k = n)) (fun _ r => (intOf r).toNat)
  case atStart => exact ⟨0, n, rfl, rfl, h0, h1, by omega, by show n + 0 = n; omega⟩
  case round =>
    obtain ⟨k, x, rfl, rfl, hx0, hx1, hk, HS⟩ := hrel
    have hyb := yearD_bd (1970 + k)
    have HY := hide (fun W => civil_yearDays_any (1970 + k) W (by omega))
    by_cases hlt : yearD (1970 + k) ≤ x
    · have hN := HS.out
      have hb := (sumY_bd (k + 1)).1
      have HN := hide (show x - yearD (1970 + k) + sumY (k + 1) = n by rw [sumY_succ]; omega)
      have hk2 : k + 1 ≤ 1095 := by rw [sumY_succ] at hb; omega
      clear hN hb
      generalize yearD (1970 + (k : Int)) = L at *
      go_wp2_with (go_at_call 68; refine (HY.out _).mono ?_; rintro e w' ⟨rfl, rfl⟩)
      go_round
      case rel => exact ⟨k + 1, x - L, rfl, by go_num, by omega, by omega, hk2, HN⟩
      case measure => simp [intOf]; omega
    · have h12 := sumM_12 (1970 + k)
      have HM := hide (show x < sumM (1970 + k) 12 by omega)
      clear h12
      generalize yearD (1970 + (k : Int)) = L at *
      go_wp2_with (go_at_call 68; refine (HY.out _).mono ?_; rintro e w' ⟨rfl, rfl⟩)
      have hx00 := hx0
      go_loop [3, 6] (fun m r => ∃ (j : Nat) (z : Int), r = .int .i64 z ∧ m = .int .i64 (1 + j) ∧ 0 ≤ z ∧ z ≤ 400000 ∧ j < 12 ∧ Hid (z + sumM (1970 + k) j = x)) (fun _ r => (intOf r).toNat)
      case atStart => exact ⟨0, x, rfl, rfl, hx0, hx1, by omega, by show x + 0 = x; omega⟩
      case round =>
        obtain ⟨j, z, rfl, rfl, hz0, hz1, hj, HS2⟩ := hrel
        have hl := lenM_bd (1970 + k) (1 + j)
        have HL := hide (fun W (hW : LenVar W 1) => civil_length_any (1970 + k) (1 + j) W hW (by omega) (by omega) (by omega))
        by_cases hlt2 : z < lenM (1970 + k) (1 + j)
        · have HR := hide (show GoodN n k j (z + 1) from ⟨hk, hj, by omega, by omega, by have := HS.out; have := HS2.out; omega⟩)
          generalize lenM (1970 + (k : Int)) (1 + j) = M at *
          go_wp2_with (go_at_call 69; refine (HL.out _ HG.out).mono ?_; rintro e w' ⟨rfl, rfl⟩)
          try rw [Exit.noGoto_ret]
          refine bodyPost_ret (v := .tuple #[.int .i64 (1970 + k), .int .i64 (1 + j), .int .i64 (z + 1), .bool true]) (by simp [results, Tryd.results41, go_sem]) rfl ⟨⟨k, j, z + 1, HR.out, rfl⟩, rfl⟩
        · have HN := hide (show z - lenM (1970 + k) (1 + j) + sumM (1970 + k) (j + 1) = x by rw [sumM_succ]; have := HS2.out; omega)
          have hj2 : j + 1 < 12 := by
            have h1 := HN.out
            have h2 := HM.out
            have h3 : ¬ j + 1 = 12 := fun e => by rw [e] at h1; omega
            omega
          generalize lenM (1970 + (k : Int)) (1 + j) = M at *
          go_wp2_with (go_at_call 69; refine (HL.out _ HG.out).mono ?_; rintro e w' ⟨rfl, rfl⟩)
          go_round
          case rel => exact ⟨j + 1, z - M, rfl, by go_num, by omega, by omega, hj2, HN⟩
          case measure => simp [intOf]; omega
end Go.Proofs.YtajcddaahmbllaaDoor

namespace Go.Proofs.YtajcddaahmbllaaDoor
open Go.RowKit
def dgt (n : Int) : UInt8 := UInt8.ofNat (48 + (n % 10).toNat)
theorem digK_cons : ∀ (i : Nat) (n : Int), digK (i + 1) n = dgt (n / 10 ^ i) :: digK i n
  | 0, n => by simp [digK, dgt]
  | i + 1, n => by
    rw [digK, digK_cons i (n / 10)]
    have : n / 10 / 10 ^ i = n / 10 ^ (i + 1) := by rw [Int.pow_succ, Int.mul_comm, Int.ediv_ediv_of_nonneg (by omega)]
    rw [this]; rfl
theorem dgt_nat (n : Int) : ((dgt n).toNat : Int) = 48 + n % 10 := by
  unfold dgt
  have h : (n % 10).toNat < 10 := by omega
  rw [UInt8.toNat_ofNat_of_lt' (by show _ < 256; omega)]; omega
theorem ba_append (a b : Array UInt8) : (⟨a⟩ : ByteArray) ++ ⟨b⟩ = ⟨a ++ b⟩ := by
  apply ByteArray.ext; simp [ByteArray.data_append]
theorem own_one (w : World) (c : UInt8) : (w.alloc (.cells #[byteV c] 5)).ownsRow w.heap.size 5 1 (.slice (some ⟨w.heap.size, 0, none⟩) 1 1) 1 [byteV c] :=
  ⟨by simp, .inr ⟨w.heap.size, 1, #[byteV c], rfl, Nat.le_refl _, heap_alloc_new w _, by omega, by decide, by simp, by simp⟩⟩
theorem conv_one (w : World) (c : UInt8) (v : Int) (h : v = (c.toNat : Int)) : (convert 63 9 (.slice (some ⟨w.heap.size, 0, none⟩) 1 1)).run Tryd.prog (w.alloc (.cells #[.int .u8 v] 5)) = .ok (str [c]) (w.alloc (.cells #[.int .u8 v] 5)) := by
  subst h
  exact run_conv_own Tryd.underlying63 Tryd.underlying5 Tryd.underlying9 (b := [c]) (own_one w c)
set_option maxHeartbeats 4000000 in
theorem ref3_padded_any (n : Int) (K : Nat) (w : World) (h0 : 0 ≤ n) (h1 : n < 10 ^ K) (hK : K ≤ 4) : Calls Tryd.prog 44 #[.int .i64 n, .int .i64 K] w fun e w' => e = .returned (str (digK K n)) ∧ Below w.heap.size w w' := by
  have H1 := hide h1; clear h1
  have hn4 : n < 100000 := by
    have := H1.out
    obtain h | h | h | h | h : K = 0 ∨ K = 1 ∨ K = 2 ∨ K = 3 ∨ K = 4 := by omega
    all_goals (subst h; omega)
  go_enter Tryd.func44, Tryd.ntmps44
  go_wp2
  go_loopw [0, 1, 5] (fun a b s wr => ∃ (i r : Nat) (x : Int), i + r = K ∧ a = .int .i64 x ∧ b = .int .i64 r ∧ s = str (digK i n) ∧ 0 ≤ x ∧ x < 100000 ∧ Hid (x = n / 10 ^ i) ∧ Below w.heap.size w wr) (fun _ b _ _ => (intOf b).toNat)
  case atStart => exact ⟨0, K, n, by omega, rfl, rfl, rfl, h0, hn4, by simp [Hid], Below.refl _ _⟩
  case round =>
    obtain ⟨i, r, x, hi, rfl, rfl, rfl, hx0, hx1, HX, hbel⟩ := hrel
    have hsz := hbel.size
    have HI := hide hi
    have hi4 : i ≤ 4 := by omega
    have hr4 : r ≤ 4 := by omega
    have hln : (digK i n).length ≤ 4 := by rw [digK_len]; exact hi4
    clear hi
    by_cases hlt : 0 < r
    · have hk : decide (0 < r) = true := by simpa using hlt
      have HD := hide (show digK (i + 1) n = dgt x :: digK i n by rw [digK_cons, HX.out])
      have HX2 := hide (show x / 10 = n / 10 ^ (i + 1) by rw [HX.out, Int.pow_succ, Int.ediv_ediv_of_nonneg (Int.pow_nonneg (by omega))])
      have hcv := fun W => conv_one W (dgt x) (48 + x % 10) (dgt_nat x).symm
      clear HX
      go_wp2
      exact ⟨⟨i + 1, r - 1, x / 10, by have := HI.out; omega, rfl, by go_num, by rw [HD.out, ba_append]; simp, by omega, by omega, HX2, by (repeat (first | exact Below.refl _ _ | assumption | refine Below.drew ?_ | refine below_drewN ?_ _ | refine Below.alloc ?_ (by first | omega | (simp; done) | (simp; omega)) _ | refine Below.setCell ?_ (by first | omega | (simp; done) | (simp; omega)) _))⟩, by simp [intOf]; omega⟩
    · obtain rfl : r = 0 := by omega
      have hx : x = 0 := by
        have h1 := HX.out
        have h2 := HI.out
        rw [Nat.add_zero] at h2
        rw [h1, h2]
        exact Int.ediv_eq_zero_of_lt h0 H1.out
      subst hx
      have HE := hide (show i = K from by have := HI.out; omega)
      go_wp2
      go_ret
      exact ⟨by rw [HE.out]; rfl, hbel⟩
theorem decDigits_rec (u : Nat) (h : ¬ u < 10) : Lib.decDigits u = Lib.decDigits (u / 10) ++ [UInt8.ofNat (48 + u % 10)] := by rw [Lib.decDigits, dif_neg h]
theorem dgt_toNat (x : Int) (h : 0 ≤ x) : dgt x = UInt8.ofNat (48 + x.toNat % 10) := by
  unfold dgt
  congr 2
  omega
def NumRel (N x : Int) (s : Bytes) : Prop := if 0 < x then Lib.decDigits x.toNat ++ s = Lib.decDigits N.toNat else s = Lib.decDigits N.toNat
theorem NumRel_step {N x : Int} {s : Bytes} (h : NumRel N x s) (h0 : 0 < x) : NumRel N (x / 10) (dgt x :: s) := by
  unfold NumRel at *
  rw [if_pos h0] at h
  by_cases h1 : x < 10
  · rw [if_neg (by omega), ← h, Lib.decDigits_one (by omega), dgt_toNat x (by omega), Nat.mod_eq_of_lt (by omega)]; rfl
  · rw [if_pos (by omega), ← h, decDigits_rec x.toNat (by omega), dgt_toNat x (by omega), show (x / 10).toNat = x.toNat / 10 by omega]
    simp
theorem NumRel_start (N : Int) (h : 0 ≤ N) : NumRel N (N / 10) [dgt N] := by
  by_cases h0 : 0 < N
  · exact NumRel_step (s := []) (by unfold NumRel; rw [if_pos h0]; simp) h0
  · obtain rfl : N = 0 := by omega
    unfold NumRel
    rw [if_neg (by decide), show (0 : Int).toNat = 0 from rfl, Lib.decDigits_one (by decide)]; rfl
end Go.Proofs.YtajcddaahmbllaaDoor
