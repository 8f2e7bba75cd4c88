/- Plain: the date of a day number, its text, and that they determine each other. No program in sight. Contracts: civil.Date, ref3.Date. Contracts: ref3.padded, ref7.Number. Contract: law7.tokens: some list of n+1 tokens with short texts. Contracts: ref3.Format, ref7.Moment, ref7.Quote. Contracts: civil.put, civil.Format. -/
import Derived.Test.YtlfedcbihbigoaaGreatDoorCivAD
import Derived.Test.YtlfedcbihbigoaaGreatDoorBase0
import Derived.Test.YtlfedcbihbigoaaGreatDoorTokAD
import Derived.Test.YtlfedcbihbigoaaGreatDoorShelf
import Derived.Test.YtlfedcbihbigoaaGreatDoorValDF
import Derived.Test.YtlfedcbihbigoaaGreatDoorBaseB
import Derived.Test.YtlfedcbihbigoaaGreatDoorRefAC
import Derived.Lib.SmallJoins
import Derived.Lib.SlBytesConst
set_option linter.unusedVariables false
set_option linter.unusedSimpArgs false
namespace Go.Proofs.YtlfedcbihbigoaaGreatDoor
open Go.RowKit
theorem sumY_succ (k : Nat) : sumY (k + 1) = sumY k + yearD (1970 + k) := rfl
theorem sumM_succ (y : Int) (k : Nat) : sumM y (k + 1) = sumM y k + lenM y (1 + k) := rfl
theorem sumM_12 (y : Int) : sumM y 12 = yearD y := by
  simp only [sumM, lenM, yearD]
  cases leapB y <;> rfl
theorem sumY_mono (a : Nat) : ∀ b : Nat, sumY a ≤ sumY (a + b)
  | 0 => Int.le_refl _
  | b + 1 => by
    have := sumY_mono a b
    have h := yearD_bd (1970 + ((a + b : Nat) : Int))
    rw [← Nat.add_assoc, sumY_succ]; omega
theorem sumM_mono (y : Int) (a : Nat) : ∀ b : Nat, sumM y a ≤ sumM y (a + b)
  | 0 => Int.le_refl _
  | b + 1 => by
    have := sumM_mono y a b
    have h := lenM_bd y (1 + ((a + b : Nat) : Int))
    rw [← Nat.add_assoc, sumM_succ]; omega
theorem sumY_le {a b : Nat} (h : a ≤ b) : sumY a ≤ sumY b := by
  obtain ⟨c, rfl⟩ := Nat.exists_eq_add_of_le h; exact sumY_mono a c
theorem sumM_le (y : Int) {a b : Nat} (h : a ≤ b) : sumM y a ≤ sumM y b := by
  obtain ⟨c, rfl⟩ := Nat.exists_eq_add_of_le h; exact sumM_mono y a c
/-- y = 1970 + k, month 1 + j, day d of the day number n. -/
def GoodN (n : Int) (k j : Nat) (d : Int) : Prop := k ≤ 1095 ∧ j < 12 ∧ 1 ≤ d ∧ d ≤ lenM (1970 + k) (1 + j) ∧ d - 1 + sumY k + sumM (1970 + k) j = n
theorem GoodN_lt {n : Int} {k j : Nat} {d : Int} (h : GoodN n k j d) : sumY k ≤ n ∧ n < sumY (k + 1) ∧ sumY k + sumM (1970 + k) j ≤ n ∧ n < sumY k + sumM (1970 + k) (j + 1) := by
  obtain ⟨h1, h2, h3, h4, h5⟩ := h
  have a := sumM_le (1970 + (k : Int)) (Nat.zero_le j)
  have a0 : sumM (1970 + (k : Int)) 0 = 0 := rfl
  have b := sumM_le (1970 + (k : Int)) (show j + 1 ≤ 12 by omega)
  rw [sumM_12, sumM_succ] at b
  rw [sumY_succ, sumM_succ]
  omega
theorem GoodN_unique {n : Int} {k j k' j' : Nat} {d d' : Int} (h : GoodN n k j d) (h' : GoodN n k' j' d') : k = k' ∧ j = j' ∧ d = d' := by
  obtain ⟨a1, a2, a3, a4⟩ := GoodN_lt h
  obtain ⟨b1, b2, b3, b4⟩ := GoodN_lt h'
  have ek : k = k' := by
    rcases Nat.lt_trichotomy k k' with hl | hl | hl
    · have := sumY_le (show k + 1 ≤ k' by omega); omega
    · exact hl
    · have := sumY_le (show k' + 1 ≤ k by omega); omega
  subst ek
  have ej : j = j' := by
    rcases Nat.lt_trichotomy j j' with hl | hl | hl
    · have := sumM_le (1970 + (k : Int)) (show j + 1 ≤ j' by omega); omega
    · exact hl
    · have := sumM_le (1970 + (k : Int)) (show j' + 1 ≤ j by omega); omega
  subst ej
  have := h.2.2.2.2
  have := h'.2.2.2.2
  exact ⟨rfl, rfl, by omega⟩
theorem between (f : Nat → Int) (n : Int) (h0 : f 0 ≤ n) : ∀ m : Nat, n < f m → ∃ k, k < m ∧ f k ≤ n ∧ n < f (k + 1)
  | 0, h => by omega
  | m + 1, h => by
    by_cases hm : n < f m
    · obtain ⟨k, h1, h2, h3⟩ := between f n h0 m hm
      exact ⟨k, by omega, h2, h3⟩
    · exact ⟨m, by omega, by omega, h⟩
theorem GoodN_exists {n : Int} (h0 : 0 ≤ n) (h1 : n ≤ 400000) : ∃ k j d, GoodN n k j d := by
  obtain ⟨k, k1, k2, k3⟩ := between sumY n h0 1096 (by have := (sumY_bd 1096).1; omega)
  rw [sumY_succ, ← sumM_12] at k3
  obtain ⟨j, j1, j2, j3⟩ := between (fun j => sumY k + sumM (1970 + k) j) n (by show sumY k + 0 ≤ n; omega) 12 k3
  rw [sumM_succ] at j3
  exact ⟨k, j, n - sumY k - sumM (1970 + k) j + 1, by omega, j1, by omega, by omega, by omega⟩

/-! ### the text -/
/-- The last k decimal digits of a number. -/
def digK : Nat → Int → Bytes
  | 0, _ => []
  | k + 1, n => digK k (n / 10) ++ [UInt8.ofNat (48 + (n % 10).toNat)]
theorem digK_len : ∀ (k : Nat) (n : Int), (digK k n).length = k
  | 0, _ => rfl
  | k + 1, n => by simp [digK, digK_len k]
def Fmt (n : Int) (l : Bytes) : Prop := ∃ (k j : Nat) (d : Int), GoodN (n / 1440) k j d ∧ l = digK 4 (1970 + k) ++ [45] ++ digK 2 (1 + j) ++ [45] ++ digK 2 d ++ [84] ++ digK 2 (n / 60 % 24) ++ [58] ++ digK 2 (n % 60)
open Classical in
/-- The text of a number of minutes. -/
noncomputable def fmtS (n : Int) : Bytes := if h : ∃ l, Fmt n l then h.choose else []
theorem Fmt_unique {n : Int} {l l' : Bytes} (h : Fmt n l) (h' : Fmt n l') : l = l' := by
  obtain ⟨k, j, d, g, rfl⟩ := h
  obtain ⟨k', j', d', g', rfl⟩ := h'
  obtain ⟨rfl, rfl, rfl⟩ := GoodN_unique g g'
  rfl
theorem fmtS_eq {n : Int} {l : Bytes} (h : Fmt n l) : fmtS n = l := by
  have hx : ∃ l, Fmt n l := ⟨l, h⟩
  unfold fmtS
  rw [dif_pos hx]
  exact Fmt_unique hx.choose_spec h
theorem Fmt_len {n : Int} {l : Bytes} (h : Fmt n l) : l.length = 16 := by
  obtain ⟨k, j, d, g, rfl⟩ := h
  simp [digK_len]
theorem fmtS_len {n : Int} (h0 : 0 ≤ n) (h1 : n ≤ 575999999) : (fmtS n).length = 16 := by
  obtain ⟨k, j, d, g⟩ := GoodN_exists (n := n / 1440) (by omega) (by omega)
  have := fmtS_eq ⟨k, j, d, g, rfl⟩
  rw [this, Fmt_len ⟨k, j, d, g, rfl⟩]
end Go.Proofs.YtlfedcbihbigoaaGreatDoor

namespace Go.Proofs.YtlfedcbihbigoaaGreatDoor
open Go.RowKit
def DateRes (n : Int) (e : Ending) : Prop := ∃ (k j : Nat) (d : Int), GoodN n k j d ∧ e = .returned (.tuple #[.int .i64 (1970 + k), .int .i64 (1 + j), .int .i64 d, .bool true])
set_option maxHeartbeats 4000000 in
theorem ref3_Date_any (n : Int) (w : World) (h0 : 0 ≤ n) (h1 : n ≤ 400000) : Calls Tryz.prog 141 #[.int .i64 n] w fun e w' => DateRes n e ∧ w = w' := by
  go_enter Tryz.func141, Tryz.ntmps141
  go_wp2
  go_loop [0, 2, 3] (fun r y m => ∃ (k j : Nat) (x : Int), r = .int .i64 x ∧ y = .int .i64 (1970 + k) ∧ m = .int .i64 (1 + j) ∧ j < 12 ∧ 0 ≤ x ∧ x ≤ 400000 ∧ k ≤ 1095 ∧ Hid (x + sumY k + sumM (1970 + k) j = n)) (fun r _ _ => (intOf r).toNat)
  case atStart => exact ⟨0, 0, n, rfl, rfl, rfl, by omega, h0, h1, by omega, by show n + 0 + 0 = n; omega⟩
  case round =>
    obtain ⟨k, j, x, rfl, rfl, rfl, hj, hx0, hx1, hk, HS⟩ := hrel
    have hl := lenM_bd (1970 + k) (1 + j)
    have HL := hide (fun W => ref3_length_any (1970 + k) (1 + j) W (by omega) (by omega) (by omega))
    by_cases hlt : lenM (1970 + k) (1 + j) ≤ x
    · have HN := hide (show j + 1 < 12 → x - lenM (1970 + k) (1 + j) + sumY k + sumM (1970 + k) (j + 1) = n from fun _ => by
        have := HS.out; rw [sumM_succ]; omega)
      have HN2 := hide (show j + 1 = 12 → x - lenM (1970 + k) (1 + j) + sumY (k + 1) + sumM (1970 + ((k + 1 : Nat) : Int)) 0 = n ∧ k + 1 ≤ 1095 from fun e => by
        have h := HS.out
        have h2 : sumY k + sumM (1970 + k) j + lenM (1970 + k) (1 + j) = sumY (k + 1) := by
          rw [sumY_succ, ← sumM_12, ← e, sumM_succ]; omega
        have h3 := (sumY_bd (k + 1)).1
        refine ⟨?_, by omega⟩
        show _ + _ + 0 = n
        omega)
      generalize lenM (1970 + k) (1 + j) = L at *
      by_cases hj2 : j + 1 < 12
      · have HN3 := hide (HN.out hj2)
        go_wp2_with (go_at_call 127; refine (HL.out _).mono ?_; rintro e w' ⟨rfl, rfl⟩)
        go_round
        case rel => exact ⟨k, j + 1, x - L, rfl, rfl, by go_num, hj2, by omega, by omega, hk, HN3⟩
        case measure => simp [intOf]; omega
      · obtain ⟨hn1, hn2⟩ := HN2.out (by omega)
        have HN3 := hide hn1
        clear hn1
        go_wp2_with (go_at_call 127; refine (HL.out _).mono ?_; rintro e w' ⟨rfl, rfl⟩)
        go_round
        case rel => exact ⟨k + 1, 0, x - L, rfl, by go_num, rfl, by omega, by omega, by omega, hn2, HN3⟩
        case measure => simp [intOf]; omega
    · have HR := hide (show GoodN n k j (x + 1) from ⟨hk, hj, by omega, by omega, by have := HS.out; omega⟩)
      generalize lenM (1970 + k) (1 + j) = L at *
      go_wp2_with (go_at_call 127; refine (HL.out _).mono ?_; rintro e w' ⟨rfl, rfl⟩)
      refine bodyPost_ret (v := .tuple #[.int .i64 (1970 + k), .int .i64 (1 + j), .int .i64 (x + 1), .bool true]) (by simp [results, Tryz.results141, go_sem]) rfl ⟨⟨k, j, x + 1, HR.out, rfl⟩, rfl⟩
set_option maxHeartbeats 4000000 in
theorem civil_Date_any (n : Int) (w : World) (hG : LenVar w 3) (h0 : 0 ≤ n) (h1 : n ≤ 400000) : Calls Tryz.prog 132 #[.int .i64 n] w fun e w' => DateRes n e ∧ w = w' := by
  have HG := hide hG; clear hG
  go_enter Tryz.func132, Tryz.ntmps132
  go_wp2
  go_step3
  go_wp2
  go_step3
  go_wp2
  go_loop [2, 6] (fun y r => ∃ (k : Nat) (x : Int), r = .int .i64 x ∧ y = .int .i64 (1970 + k) ∧ 0 ≤ x ∧ x ≤ 400000 ∧ k ≤ 1095 ∧ Hid (x + sumY k = n)) (fun _ r => (intOf r).toNat)
  case atStart => exact ⟨0, n, rfl, rfl, h0, h1, by omega, by show n + 0 = n; omega⟩
  case round =>
    obtain ⟨k, x, rfl, rfl, hx0, hx1, hk, HS⟩ := hrel
    have hyb := yearD_bd (1970 + k)
    have HY := hide (fun W => civil_yearDays_any (1970 + k) W (by omega))
    by_cases hlt : yearD (1970 + k) ≤ x
    · have hN := HS.out
      have hb := (sumY_bd (k + 1)).1
      have HN := hide (show x - yearD (1970 + k) + sumY (k + 1) = n by rw [sumY_succ]; omega)
      have hk2 : k + 1 ≤ 1095 := by rw [sumY_succ] at hb; omega
      clear hN hb
      generalize yearD (1970 + (k : Int)) = L at *
      go_wp2_with (go_at_call 162; refine (HY.out _).mono ?_; rintro e w' ⟨rfl, rfl⟩)
      go_round
      case rel => exact ⟨k + 1, x - L, rfl, by go_num, by omega, by omega, hk2, HN⟩
      case measure => simp [intOf]; omega
    · have h12 := sumM_12 (1970 + k)
      have HM := hide (show x < sumM (1970 + k) 12 by omega)
      clear h12
      generalize yearD (1970 + (k : Int)) = L at *
      go_wp2_with (go_at_call 162; refine (HY.out _).mono ?_; rintro e w' ⟨rfl, rfl⟩)
      have hx00 := hx0
      go_loop [3, 6] (fun m r => ∃ (j : Nat) (z : Int), r = .int .i64 z ∧ m = .int .i64 (1 + j) ∧ 0 ≤ z ∧ z ≤ 400000 ∧ j < 12 ∧ Hid (z + sumM (1970 + k) j = x)) (fun _ r => (intOf r).toNat)
      case atStart => exact ⟨0, x, rfl, rfl, hx0, hx1, by omega, by show x + 0 = x; omega⟩
      case round =>
        obtain ⟨j, z, rfl, rfl, hz0, hz1, hj, HS2⟩ := hrel
        have hl := lenM_bd (1970 + k) (1 + j)
        have HL := hide (fun W (hW : LenVar W 3) => civil_length_any (1970 + k) (1 + j) W hW (by omega) (by omega) (by omega))
        by_cases hlt2 : z < lenM (1970 + k) (1 + j)
        · have HR := hide (show GoodN n k j (z + 1) from ⟨hk, hj, by omega, by omega, by have := HS.out; have := HS2.out; omega⟩)
          generalize lenM (1970 + (k : Int)) (1 + j) = M at *
          go_wp2_with (go_at_call 163; refine (HL.out _ HG.out).mono ?_; rintro e w' ⟨rfl, rfl⟩)
          try rw [Exit.noGoto_ret]
          refine bodyPost_ret (v := .tuple #[.int .i64 (1970 + k), .int .i64 (1 + j), .int .i64 (z + 1), .bool true]) (by simp [results, Tryz.results132, go_sem]) rfl ⟨⟨k, j, z + 1, HR.out, rfl⟩, rfl⟩
        · have HN := hide (show z - lenM (1970 + k) (1 + j) + sumM (1970 + k) (j + 1) = x by rw [sumM_succ]; have := HS2.out; omega)
          have hj2 : j + 1 < 12 := by
            have h1 := HN.out
            have h2 := HM.out
            have h3 : ¬ j + 1 = 12 := fun e => by rw [e] at h1; omega
            omega
          generalize lenM (1970 + (k : Int)) (1 + j) = M at *
          go_wp2_with (go_at_call 163; refine (HL.out _ HG.out).mono ?_; rintro e w' ⟨rfl, rfl⟩)
          go_round
          case rel => exact ⟨j + 1, z - M, rfl, by go_num, by omega, by omega, hj2, HN⟩
          case measure => simp [intOf]; omega
end Go.Proofs.YtlfedcbihbigoaaGreatDoor

namespace Go.Proofs.YtlfedcbihbigoaaGreatDoor
open Go.RowKit
def dgt (n : Int) : UInt8 := UInt8.ofNat (48 + (n % 10).toNat)
theorem digK_cons : ∀ (i : Nat) (n : Int), digK (i + 1) n = dgt (n / 10 ^ i) :: digK i n
  | 0, n => by simp [digK, dgt]
  | i + 1, n => by
    rw [digK, digK_cons i (n / 10)]
    have : n / 10 / 10 ^ i = n / 10 ^ (i + 1) := by rw [Int.pow_succ, Int.mul_comm, Int.ediv_ediv_of_nonneg (by omega)]
    rw [this]; rfl
theorem dgt_nat (n : Int) : ((dgt n).toNat : Int) = 48 + n % 10 := by
  unfold dgt
  have h : (n % 10).toNat < 10 := by omega
  rw [UInt8.toNat_ofNat_of_lt' (by show _ < 256; omega)]; omega
theorem ba_append (a b : Array UInt8) : (⟨a⟩ : ByteArray) ++ ⟨b⟩ = ⟨a ++ b⟩ := by
  apply ByteArray.ext; simp [ByteArray.data_append]
theorem own_one (w : World) (c : UInt8) : (w.alloc (.cells #[byteV c] 5)).ownsRow w.heap.size 5 1 (.slice (some ⟨w.heap.size, 0, none⟩) 1 1) 1 [byteV c] :=
  ⟨by simp, .inr ⟨w.heap.size, 1, #[byteV c], rfl, Nat.le_refl _, heap_alloc_new w _, by omega, by decide, by simp, by simp⟩⟩
theorem conv_one (w : World) (c : UInt8) (v : Int) (h : v = (c.toNat : Int)) : (convert 129 9 (.slice (some ⟨w.heap.size, 0, none⟩) 1 1)).run Tryz.prog (w.alloc (.cells #[.int .u8 v] 5)) = .ok (str [c]) (w.alloc (.cells #[.int .u8 v] 5)) := by
  subst h
  exact run_conv_own Tryz.underlying129 Tryz.underlying5 Tryz.underlying9 (b := [c]) (own_one w c)
set_option maxHeartbeats 4000000 in
theorem ref3_padded_any (n : Int) (K : Nat) (w : World) (h0 : 0 ≤ n) (h1 : n < 10 ^ K) (hK : K ≤ 4) : Calls Tryz.prog 142 #[.int .i64 n, .int .i64 K] w fun e w' => e = .returned (str (digK K n)) ∧ Below w.heap.size w w' := by
  have H1 := hide h1; clear h1
  have hn4 : n < 100000 := by
    have := H1.out
    obtain h | h | h | h | h : K = 0 ∨ K = 1 ∨ K = 2 ∨ K = 3 ∨ K = 4 := by omega
    all_goals (subst h; omega)
  go_enter Tryz.func142, Tryz.ntmps142
  go_wp2
  go_loopw [0, 1, 5] (fun a b s wr => ∃ (i r : Nat) (x : Int), i + r = K ∧ a = .int .i64 x ∧ b = .int .i64 r ∧ s = str (digK i n) ∧ 0 ≤ x ∧ x < 100000 ∧ Hid (x = n / 10 ^ i) ∧ Below w.heap.size w wr) (fun _ b _ _ => (intOf b).toNat)
  case atStart => exact ⟨0, K, n, by omega, rfl, rfl, rfl, h0, hn4, by simp [Hid], Below.refl _ _⟩
  case round =>
    obtain ⟨i, r, x, hi, rfl, rfl, rfl, hx0, hx1, HX, hbel⟩ := hrel
    have hsz := hbel.size
    have HI := hide hi
    have hi4 : i ≤ 4 := by omega
    have hr4 : r ≤ 4 := by omega
    have hln : (digK i n).length ≤ 4 := by rw [digK_len]; exact hi4
    clear hi
    by_cases hlt : 0 < r
    · have hk : decide (0 < r) = true := by simpa using hlt
      have HD := hide (show digK (i + 1) n = dgt x :: digK i n by rw [digK_cons, HX.out])
      have HX2 := hide (show x / 10 = n / 10 ^ (i + 1) by rw [HX.out, Int.pow_succ, Int.ediv_ediv_of_nonneg (Int.pow_nonneg (by omega))])
      have hcv := fun W => conv_one W (dgt x) (48 + x % 10) (dgt_nat x).symm
      clear HX
      go_wp2
      exact ⟨⟨i + 1, r - 1, x / 10, by have := HI.out; omega, rfl, by go_num, by rw [HD.out, ba_append]; simp, by omega, by omega, HX2, by (repeat (first | exact Below.refl _ _ | assumption | refine Below.drew ?_ | refine below_drewN ?_ _ | refine Below.alloc ?_ (by first | omega | simp <;> omega) _ | refine Below.setCell ?_ (by first | omega | simp <;> omega) _))⟩, by simp [intOf]; omega⟩
    · obtain rfl : r = 0 := by omega
      have hx : x = 0 := by
        have h1 := HX.out
        have h2 := HI.out
        rw [Nat.add_zero] at h2
        rw [h1, h2]
        exact Int.ediv_eq_zero_of_lt h0 H1.out
      subst hx
      have HE := hide (show i = K from by have := HI.out; omega)
      go_wp2
      go_ret
      exact ⟨by rw [HE.out]; rfl, hbel⟩
theorem decDigits_rec (u : Nat) (h : ¬ u < 10) : Lib.decDigits u = Lib.decDigits (u / 10) ++ [UInt8.ofNat (48 + u % 10)] := by rw [Lib.decDigits, dif_neg h]
theorem dgt_toNat (x : Int) (h : 0 ≤ x) : dgt x = UInt8.ofNat (48 + x.toNat % 10) := by
  unfold dgt
  congr 2
  omega
def NumRel (N x : Int) (s : Bytes) : Prop := if 0 < x then Lib.decDigits x.toNat ++ s = Lib.decDigits N.toNat else s = Lib.decDigits N.toNat
theorem NumRel_step {N x : Int} {s : Bytes} (h : NumRel N x s) (h0 : 0 < x) : NumRel N (x / 10) (dgt x :: s) := by
  unfold NumRel at *
  rw [if_pos h0] at h
  by_cases h1 : x < 10
  · rw [if_neg (by omega), ← h, Lib.decDigits_one (by omega), dgt_toNat x (by omega), Nat.mod_eq_of_lt (by omega)]; rfl
  · rw [if_pos (by omega), ← h, decDigits_rec x.toNat (by omega), dgt_toNat x (by omega), show (x / 10).toNat = x.toNat / 10 by omega]
    simp
theorem NumRel_start (N : Int) (h : 0 ≤ N) : NumRel N (N / 10) [dgt N] := by
  by_cases h0 : 0 < N
  · exact NumRel_step (s := []) (by unfold NumRel; rw [if_pos h0]; simp) h0
  · obtain rfl : N = 0 := by omega
    unfold NumRel
    rw [if_neg (by decide), show (0 : Int).toNat = 0 from rfl, Lib.decDigits_one (by decide)]; rfl
set_option maxHeartbeats 4000000 in
theorem ref7_Number_any (N : Int) (w : World) (h0 : 0 ≤ N) (h1 : N ≤ 1073741824) : Calls Tryz.prog 77 #[.int .i64 N] w fun e w' => e = .returned (str (Lib.decDigits N.toNat)) ∧ Below w.heap.size w w' := by
  have hcv := fun W => conv_one W (dgt N) (48 + N % 10) (dgt_nat N).symm
  have HS := hide (NumRel_start N h0)
  go_enter Tryz.func77, Tryz.ntmps77
  go_wp2
  clear hcv
  go_loopw [0, 3] (fun a s wr => ∃ (x : Int) (l : Bytes), a = .int .i64 x ∧ s = str l ∧ 0 ≤ x ∧ x < 1073741824 ∧ Hid (NumRel N x l) ∧ l.length ≤ 100 ∧ Hid (x * 10 ^ l.length ≤ N) ∧ Below w.heap.size w wr) (fun a _ _ => (intOf a).toNat)
  case atStart => exact ⟨N / 10, [dgt N], rfl, rfl, by omega, by omega, HS.out, by simp, by simp [Hid]; omega, by (repeat (first | exact Below.refl _ _ | assumption | refine Below.drew ?_ | refine below_drewN ?_ _ | refine Below.alloc ?_ (by first | omega | simp <;> omega) _ | refine Below.setCell ?_ (by first | omega | simp <;> omega) _))⟩
  case round =>
    obtain ⟨x, l, rfl, rfl, hx0, hx1, HR, hll, HP, hbel⟩ := hrel
    have hsz := hbel.size
    by_cases hlt : 0 < x
    · have HR2 := hide (NumRel_step HR.out hlt)
      have hcv := fun W => conv_one W (dgt x) (48 + x % 10) (dgt_nat x).symm
      have HP2 := hide (show x / 10 * 10 ^ (l.length + 1) ≤ N by
        have := HP.out
        rw [Int.pow_succ, Int.mul_comm (10 ^ l.length) 10, ← Int.mul_assoc]
        have h2 : x / 10 * 10 ≤ x := by omega
        exact Int.le_trans (Int.mul_le_mul_of_nonneg_right h2 (Int.pow_nonneg (by omega))) this)
      have hl2 : l.length + 1 ≤ 100 := by
        rcases Nat.lt_or_ge l.length 12 with h | h
        · omega
        · exfalso
          have := HP.out
          have h3 : (10 : Int) ^ 12 ≤ 10 ^ l.length := by
            exact_mod_cast Nat.pow_le_pow_right (by omega) h
          have h4 : 10 ^ l.length ≤ x * 10 ^ l.length := by
            have := Int.mul_le_mul_of_nonneg_right (show 1 ≤ x by omega) (Int.pow_nonneg (n := 10) (m := l.length) (by omega))
            simpa using this
          omega
      clear HR HP
      go_wp2
      exact ⟨⟨x / 10, dgt x :: l, rfl, by rw [ba_append]; simp, by omega, by omega, HR2, by simp; omega, by simpa [Hid] using HP2, by (repeat (first | exact Below.refl _ _ | assumption | refine Below.drew ?_ | refine below_drewN ?_ _ | refine Below.alloc ?_ (by first | omega | simp <;> omega) _ | refine Below.setCell ?_ (by first | omega | simp <;> omega) _))⟩, by simp [intOf]; omega⟩
    · obtain rfl : x = 0 := by omega
      have HE := hide (show l = Lib.decDigits N.toNat from by have := HR.out; unfold NumRel at this; rwa [if_neg (by decide)] at this)
      go_wp2
      go_ret
      exact ⟨by rw [HE.out]; rfl, hbel⟩
end Go.Proofs.YtlfedcbihbigoaaGreatDoor

namespace Go.Proofs.YtlfedcbihbigoaaGreatDoor
open Go.RowKit
theorem and_3 (i : Int) : bits .and .i64 i 3 = i % 4 := by
  show IntKind.i64.wrap ((BitVec.ofInt 64 i &&& BitVec.ofInt 64 3).toNat : Int) = _
  have h : (BitVec.ofInt 64 (3 : Int)).toNat = 2 ^ 2 - 1 := by decide
  rw [BitVec.toNat_and, h, Nat.and_two_pow_sub_one_eq_mod, IntKind.wrap_i64]
  simp only [BitVec.toNat_ofInt]
  omega
theorem lAt_le (l : List Int) (i : Int) : lAt l i ≤ 131072 := by
  unfold lAt
  split
  · omega
  · rename_i h
    have h1 : i % 65536 / (l.length : Int) ≤ i % 65536 := Int.ediv_le_self _ (by omega)
    omega
def shortT (ts : List Tok) : Prop := ∀ j (h : j < ts.length), ts[j].text.length ≤ 100
theorem shortT_nil : shortT [] := fun j h => absurd h (Nat.not_lt_zero _)
theorem shortT_snoc {ts : List Tok} {t : Tok} (h : shortT ts) (ht : t.text.length ≤ 100) : shortT (ts ++ [t]) := by
  intro j hj
  by_cases e : j < ts.length
  · rw [List.getElem_append_left e]; exact h j e
  · rw [List.getElem_append_right (by omega)]; simp; exact ht
def namesS : List Bytes := [[97], [102, 114, 111, 109], [109, 46, 98], [97, 95, 49]]
def textsS : List Bytes := [[], [105, 116, 39, 115], [35], [10]]
def signsS : List Bytes := [[40], [41], [60, 61], [43, 43], [61], [33], [45]]
/-- The token that a number stands for. -/
def mkY (y : Int) : Tok :=
  if y % 5 = 0 then ⟨1, namesS.getD (y / 8 % 4).toNat [], 0, y / 64 % 4⟩
  else if y % 5 = 1 then ⟨2, [], y / 8, y / 64 % 4⟩
  else if y % 5 = 2 then ⟨3, textsS.getD (y / 8 % 4).toNat [], 0, y / 64 % 4⟩
  else if y % 5 = 3 then ⟨4, [], y * 7000, y / 64 % 4⟩
  else ⟨5, signsS.getD (y / 8 % 7).toNat [], 0, y / 64 % 4⟩
def toksK (l : List Int) (k : Nat) : List Tok := (List.range k).map fun (i : Nat) => mkY (lAt l i)
def tokensS (l : List Int) (n : Nat) : List Tok := toksK l n ++ [tok0]
theorem toksK_succ (l : List Int) (k : Nat) : toksK l (k + 1) = toksK l k ++ [mkY (lAt l k)] := by unfold toksK; rw [List.range_succ, List.map_append]; rfl
theorem toksK_len (l : List Int) (k : Nat) : (toksK l k).length = k := by unfold toksK; simp
theorem tokensS_len (l : List Int) (k : Nat) : (tokensS l k).length = k + 1 := by unfold tokensS; simp [toksK_len]
theorem getD_short (ls : List Bytes) (h : ∀ x ∈ ls, x.length ≤ 100) (k : Nat) : (ls.getD k []).length ≤ 100 := by
  by_cases hk : k < ls.length
  · rw [List.getD_eq_getElem?_getD, List.getElem?_eq_getElem hk]; exact h _ (List.getElem_mem hk)
  · rw [List.getD_eq_getElem?_getD, List.getElem?_eq_none (by omega)]; simp
theorem mkY_short (y : Int) : (mkY y).text.length ≤ 100 := by
  unfold mkY
  split
  · exact getD_short namesS (by decide) _
  split
  · simp
  split
  · exact getD_short textsS (by decide) _
  split
  · simp
  · exact getD_short signsS (by decide) _
theorem shortT_of {ts : List Tok} (h : ∀ t ∈ ts, t.text.length ≤ 100) : shortT ts := fun j hj => h _ (List.getElem_mem hj)
theorem tokensS_short (l : List Int) (n : Nat) : shortT (tokensS l n) := shortT_of fun t ht => by
  unfold tokensS toksK at ht
  rw [List.mem_append, List.mem_map] at ht
  rcases ht with ⟨i, _, rfl⟩ | ht
  · exact mkY_short _
  · rw [List.mem_singleton] at ht; subst ht; simp [tok0]
def TokensRes (l : List Int) (n : Nat) (w' : World) (e : Ending) : Prop :=
  ∃ (A : Option Addr) (c : Nat), e = .returned (.slice A (n + 1) c) ∧ ToksAt w' A (tokensS l n) ∧ n + 1 ≤ c
theorem cells_g4 {W : World} {B : Nat} {a b c d : Value} {t : TypeId} (h : W.heap[B]? = some (.cells #[a, b, c, d] t)) : ∀ (j : Nat) (u : Value), [a, b, c, d][j]? = some u → W.cell? ((⟨B, 0, none⟩ : Addr).add j) = some u := by
  intro j u hu
  have e : (⟨B, 0, none⟩ : Addr).add j = ⟨B, j, none⟩ := by unfold Addr.add; split <;> simp_all
  rw [e, cell_of_heap h]
  simpa using hu
theorem own_capT {w : World} {base e size n c : Nat} {A : Option Addr} {xs : List Value} (h : w.ownsRow base e size (.slice A n c) n xs) : n ≤ c := by
  rcases h.2 with ⟨hv, hn⟩ | ⟨g, cap, cur, hv, hg, hh, hnc, _⟩
  · omega
  · injection hv with h1 h2 h3
    omega
theorem heap_new1 (w : World) (o1 o2 : Obj) : ((w.alloc o1).alloc o2).heap[w.heap.size + 1]? = some o2 := by
  have := heap_alloc_new (w.alloc o1) o2; simpa using this
theorem heap_new2 (w : World) (o1 o2 o3 : Obj) : (((w.alloc o1).alloc o2).alloc o3).heap[w.heap.size + 1 + 1]? = some o3 := by
  have := heap_alloc_new ((w.alloc o1).alloc o2) o3; simpa using this
end Go.Proofs.YtlfedcbihbigoaaGreatDoor

namespace Go.Proofs.YtlfedcbihbigoaaGreatDoor
open Go.RowKit
theorem padded4 (n : Int) (w : World) (h0 : 0 ≤ n) (h1 : n < 10000) : Calls Tryz.prog 142 #[.int .i64 n, .int .i64 4] w fun e w' => e = .returned (str (digK 4 n)) ∧ Below w.heap.size w w' :=
  ref3_padded_any n 4 w h0 h1 (by omega)
theorem padded2 (n : Int) (w : World) (h0 : 0 ≤ n) (h1 : n < 100) : Calls Tryz.prog 142 #[.int .i64 n, .int .i64 2] w fun e w' => e = .returned (str (digK 2 n)) ∧ Below w.heap.size w w' :=
  ref3_padded_any n 2 w h0 h1 (by omega)
theorem below_st {w w1 w2 : World} (h2 : Below w1.heap.size w1 w2) (h : Below w.heap.size w w1) : Below w.heap.size w w2 := h.trans (h2.mono h.size)
set_option maxHeartbeats 4000000 in
theorem ref3_Format_any (n : Int) (w : World) (h0 : 0 ≤ n) (h1 : n ≤ 575999999) : Calls Tryz.prog 116 #[.int .i64 n] w fun e w' => e = .returned (.tuple #[str (fmtS n), .int .i64 0]) ∧ Below w.heap.size w w' := by
  have HF := hide (fun k j d (g : GoodN (n / 1440) k j d) => fmtS_eq ⟨k, j, d, g, rfl⟩)
  have h24 : n % 1440 / 60 = n / 60 % 24 := by omega
  rw [← h24] at HF
  clear h24
  go_enter Tryz.func116, Tryz.ntmps116
  go_wp2_with fail
  refine (ref3_Date_any (n / 1440) _ (by omega) (by omega)).mono ?_
  rintro e w' ⟨⟨k, j, d, g, rfl⟩, rfl⟩
  have HFF := hide (HF.out k j d g)
  clear HF
  obtain ⟨g1, g2, g3, g4, g5⟩ := g
  have g6 := (lenM_bd (1970 + k) (1 + j)).2
  have g7 : d ≤ 31 := by omega
  clear g4 g5 g6
  go_wp2_with fail
  refine (padded4 (1970 + k) _ (by omega) (by omega)).mono ?_
  rintro e w1 ⟨rfl, hb1⟩
  have l1 := digK_len 4 (1970 + k)
  generalize digK 4 (1970 + (k : Int)) = t1 at *
  have l1' : t1.length ≤ 4 := by omega
  clear l1
  go_wp2_with fail
  refine (padded2 (1 + j) _ (by omega) (by omega)).mono ?_
  rintro e w2 ⟨rfl, hb2⟩
  have hc2 := below_st hb2 hb1
  have l2 := digK_len 2 (1 + j)
  generalize digK 2 (1 + (j : Int)) = t2 at *
  have l2' : t2.length ≤ 4 := by omega
  clear l2 hb1 hb2
  go_wp2_with fail
  refine (padded2 d _ (by omega) (by omega)).mono ?_
  rintro e w3 ⟨rfl, hb3⟩
  have hc3 := below_st hb3 hc2
  have l3 := digK_len 2 d
  generalize digK 2 d = t3 at *
  have l3' : t3.length ≤ 4 := by omega
  clear l3 hb3
  go_wp2_with fail
  refine (padded2 (n % 1440 / 60) _ (by omega) (by omega)).mono ?_
  rintro e w4 ⟨rfl, hb4⟩
  have hc4 := below_st hb4 hc3
  have l4 := digK_len 2 (n % 1440 / 60)
  generalize digK 2 (n % 1440 / 60) = t4 at *
  have l4' : t4.length ≤ 4 := by omega
  clear l4 hb4
  go_wp2_with fail
  refine (padded2 (n % 60) _ (by omega) (by omega)).mono ?_
  rintro e w5 ⟨rfl, hb5⟩
  have hc5 := below_st hb5 hc4
  have l5 := digK_len 2 (n % 60)
  generalize digK 2 (n % 60) = t5 at *
  have l5' : t5.length ≤ 4 := by omega
  clear l5 hb5
  go_wp2
  go_ret2
  refine ⟨?_, hc5⟩
  rw [HFF.out]
  simp [ba_append]
set_option maxHeartbeats 4000000 in
theorem ref7_Moment_any (n : Int) (w : World) (h0 : 0 ≤ n) (h1 : n ≤ 575999999) : Calls Tryz.prog 79 #[.int .i64 n] w fun e w' => e = .returned (str (64 :: fmtS n)) ∧ Below w.heap.size w w' := by
  have hl := fmtS_len h0 h1
  have HC := hide (fun W => ref3_Format_any n W h0 h1)
  generalize fmtS n = t at *
  have hl2 : t.length ≤ 20 := by omega
  clear hl
  go_enter Tryz.func79, Tryz.ntmps79
  go_wp2_with fail
  refine (HC.out _).mono ?_
  rintro e w1 ⟨rfl, hb1⟩
  go_wp2
  go_ret
  exact ⟨by simp [ba_append], hb1⟩
/-! ### quoted texts -/
def qByte (c : UInt8) : Bytes := if c.toNat = 39 then [39, 39] else [c]
def quoteS (l : Bytes) : Bytes := 39 :: (l.flatMap qByte ++ [39])
theorem quote_len (l : Bytes) : (l.flatMap qByte).length ≤ 2 * l.length := by
  induction l with
  | nil => simp
  | cons c l ih =>
    rw [List.flatMap_cons, List.length_append, List.length_cons]
    have : (qByte c).length ≤ 2 := by unfold qByte; split <;> simp
    omega
theorem quote_snoc (s : ByteArray) (k : Nat) (h : k < s.size) : ((bs s).take (k + 1)).flatMap qByte = ((bs s).take k).flatMap qByte ++ qByte s[k] := by
  rw [take_snoc s k h, List.flatMap_append]; simp
theorem cells_one {W : World} {B : Nat} {a : Value} {t : TypeId} (h : W.heap[B]? = some (.cells #[a] t)) : ∀ (j : Nat) (u : Value), [a][j]? = some u → W.cell? ((⟨B, 0, none⟩ : Addr).add j) = some u := by
  intro j u hu
  have e : (⟨B, 0, none⟩ : Addr).add j = ⟨B, j, none⟩ := by unfold Addr.add; split <;> simp_all
  rw [e, cell_of_heap h]
  simpa using hu
theorem own_cons (w : World) (v : Value) : (w.alloc (.cells #[v] 5)).ownsRow w.heap.size 5 1 (.slice (some ⟨w.heap.size, 0, none⟩) 1 1) 1 [v] :=
  ⟨by simp, .inr ⟨w.heap.size, 1, #[v], rfl, Nat.le_refl _, heap_alloc_new w _, by omega, by decide, by simp, by simp⟩⟩
theorem bv39 : byteV 39 = .int .u8 39 := rfl
set_option maxRecDepth 100000 in
set_option maxHeartbeats 4000000 in
theorem ref7_Quote_any (s : ByteArray) (w : World) (hs : s.size ≤ 100000) : Calls Tryz.prog 78 #[.string s] w fun e w' => e = .returned (str (quoteS (bs s))) ∧ Below w.heap.size w w' := by
  obtain ⟨i0, hi, hz0, hz1, hz2⟩ := info_parts Tryz.info_u8
  go_enter Tryz.func78, Tryz.ntmps78
  go_wp2
  go_loopw [3, 4] (fun v i wr => ∃ (k : Nat) (b : Bytes) (A : Option Addr) (c : Nat), v = .slice A b.length c ∧ i = .int .i64 k ∧ k ≤ s.size ∧ Hid (b = 39 :: ((bs s).take k).flatMap qByte) ∧ b.length ≤ 2 * k + 1 ∧
        wr.ownsRow w.heap.size 5 1 (.slice A b.length c) b.length (b.map byteV) ∧ Below w.heap.size w wr) (fun _ i _ => s.size - (intOf i).toNat)
  case atStart => exact ⟨0, [39], _, _, rfl, rfl, by omega, rfl, by simp, own_cons w _, by (repeat (first | exact Below.refl _ _ | assumption | refine Below.drew ?_ | refine below_drewN ?_ _ | refine Below.alloc ?_ (by first | omega | simp <;> omega) _ | refine Below.setCell ?_ (by first | omega | simp <;> omega) _))⟩
  case round =>
    obtain ⟨k, b, A, c, rfl, rfl, hk, HB, hbl, hown, hbel⟩ := hrel
    have hsz := hbel.size
    by_cases hlt : k < s.size
    · by_cases h39 : s[k].toNat = 39
      · have h39' : ((s[k].toNat : Int) == 39) = true := by simp; omega
        have HB2 := hide (show b ++ [39] ++ [s[k]] = 39 :: ((bs s).take (k + 1)).flatMap qByte by
          have he : s[k] = 39 := by apply UInt8.toNat_inj.1; rw [h39]; rfl
          rw [quote_snoc s k hlt, HB.out, show qByte s[k] = [39, 39] by unfold qByte; rw [if_pos h39], he]; simp)
        clear h39
        have tok1 : True := trivial
        go_wp2_with (first
          | (at_builtin; have _t := tok1; refine wpList_append_own _ rfl _ _ 129 rfl w.heap.size 5 i0 (.int .u8 0) 1 1 Tryz.underlying129 hi hz0 hz1 hz2 rfl (by decide) _ _ _ rfl (hown.alloc _) ⟨wr.heap.size, 0, none⟩ 1 1 [.int .u8 39] rfl rfl (cell_one_new _ _ _) (by simp [Value.oneCell']) (by unfold maxLen; omega) (by omega) (by simp; omega) ?_; intro v1 w1 hown1 hgrow1 _; clear tok1; have hs1 := hgrow1.size; simp at hs1; have hb1 := push_below hbel hown hgrow1 (by omega); obtain ⟨A1, c1, rfl⟩ := own_form hown1)
          | (at_builtin; refine wpList_append_own _ rfl _ _ 129 rfl w.heap.size 5 i0 (.int .u8 0) 1 1 Tryz.underlying129 hi hz0 hz1 hz2 rfl (by decide) _ _ _ rfl (hown1.alloc _) ⟨w1.heap.size, 0, none⟩ 1 1 [byteV s[k]] rfl rfl (cell_one_new _ _ _) (by simp [Value.oneCell']) (by unfold maxLen; omega) (by omega) (by simp; omega) ?_; intro v2 w2 hown2 hgrow2 _))
        have hb2 := push_below hb1 hown1 hgrow2 (by omega)
        obtain ⟨A2, c2, rfl⟩ := own_form hown2
        exact ⟨⟨k + 1, b ++ [39] ++ [s[k]], A2, c2, by simp, by go_num, by omega, HB2, by simp; omega, by (have h := hown2; simp only [List.length_append, List.length_cons, List.length_nil, List.map_append, List.map_cons, List.map_nil, List.append_assoc, Nat.add_assoc, Nat.zero_add, List.cons_append, List.nil_append] at h ⊢; exact h), hb2⟩, by simp [intOf]; omega⟩
      · have h39' : ((s[k].toNat : Int) == 39) = false := by simp; omega
        have HB2 := hide (show b ++ [s[k]] = 39 :: ((bs s).take (k + 1)).flatMap qByte by
          rw [quote_snoc s k hlt, HB.out, show qByte s[k] = [s[k]] by unfold qByte; rw [if_neg h39]]; simp)
        clear h39
        go_wp2_with (at_builtin; refine wpList_append_own _ rfl _ _ 129 rfl w.heap.size 5 i0 (.int .u8 0) 1 1 Tryz.underlying129 hi hz0 hz1 hz2 rfl (by decide) _ _ _ rfl (hown.alloc _) ⟨wr.heap.size, 0, none⟩ 1 1 [byteV s[k]] rfl rfl (cell_one_new _ _ _) (by simp [Value.oneCell']) (by unfold maxLen; omega) (by omega) (by simp; omega) ?_; intro v1 w1 hown1 hgrow1 _)
        have hb2 := push_below hbel hown hgrow1 (by omega)
        obtain ⟨A2, c2, rfl⟩ := own_form hown1
        exact ⟨⟨k + 1, b ++ [s[k]], A2, c2, by simp, by go_num, by omega, HB2, by simp; omega, by simpa using hown1, hb2⟩, by simp [intOf]; omega⟩
    · obtain rfl : k = s.size := by omega
      have HE := hide (show b ++ [39] = quoteS (bs s) by
        have := HB.out
        rw [List.take_of_length_le (by rw [bs_length]; omega)] at this
        rw [this]; rfl)
      go_wp2_with (at_builtin; refine wpList_append_own _ rfl _ _ 129 rfl w.heap.size 5 i0 (.int .u8 0) 1 1 Tryz.underlying129 hi hz0 hz1 hz2 rfl (by decide) _ _ _ rfl (hown.alloc _) ⟨wr.heap.size, 0, none⟩ 1 1 [.int .u8 39] rfl rfl (cell_one_new _ _ _) (by simp [Value.oneCell']) (by unfold maxLen; omega) (by omega) (by simp; omega) ?_; intro v1 w1 hown1 hgrow1 _; have hb1 := push_below hbel hown hgrow1 (by omega); obtain ⟨A1, c1, rfl⟩ := own_form hown1; have hcv := run_conv_own (P := Tryz.prog) (w := w1) (dst := 9) (b := b ++ [39]) (A := A1) (n := b.length + 1) (c := c1) Tryz.underlying129 Tryz.underlying5 Tryz.underlying9 (by have h := hown1; simp only [List.length_append, List.length_cons, List.length_nil, List.map_append, List.map_cons, List.map_nil, Nat.zero_add] at h ⊢; exact h))
      go_ret
      exact ⟨by rw [← HE.out]; rfl, hb1⟩
end Go.Proofs.YtlfedcbihbigoaaGreatDoor

namespace Go.Proofs.YtlfedcbihbigoaaGreatDoor
open Go.RowKit
/-- A list with a piece written over. -/
def putL (l : Bytes) (o : Nat) (d : Bytes) : Bytes := l.take o ++ d ++ l.drop (o + d.length)
theorem putL_len (l : Bytes) (o : Nat) (d : Bytes) (h : o + d.length ≤ l.length) : (putL l o d).length = l.length := by
  unfold putL; simp; omega
theorem putL_nil (l : Bytes) (o : Nat) : putL l o [] = l := by unfold putL; simp
theorem putL_set (l : Bytes) (o : Nat) (d : Bytes) (c : UInt8) (h : o + 1 + d.length ≤ l.length) : (putL l (o + 1) d).set o c = putL l o (c :: d) := by
  unfold putL
  rw [List.take_succ_eq_append_getElem (by omega : o < l.length), List.append_assoc, List.append_assoc, List.set_append_right _ _ (by simp; omega)]
  rw [show o - (l.take o).length = 0 by simp; omega, List.append_assoc]
  simp [Nat.add_assoc, Nat.add_comm, Nat.add_left_comm]
/-- A block of bytes that a conversion made: marked behind its end. -/
abbrev bytesO (l : Bytes) : Obj := .cells (l.map byteV).toArray 5 (16, 17)
theorem bytes_cell {w : World} {g : Nat} {l : Bytes} (h : w.heap[g]? = some (bytesO l)) (i : Nat) (hi : i < l.length) : w.cell? ⟨g, i, none⟩ = some (byteV (l[i]'hi)) := by
  simp [World.cell?, h, hi]
theorem bytes_free {w : World} {g : Nat} {l : Bytes} (h : w.heap[g]? = some (bytesO l)) (i : Nat) (hi : i < 16) : w.frozen? ⟨g, i, none⟩ = false := by
  simp [World.frozen?, h]; omega
theorem bytes_set {w : World} {g i : Nat} {l : Bytes} {c : UInt8} {v : Value} (h : w.heap[g]? = some (bytesO l)) (hv : v = byteV c) : (w.setCell ⟨g, i, none⟩ v).heap[g]? = some (bytesO (l.set i c)) := by
  subst hv
  rw [Go.Joins.block_setCell h]
  simp [List.map_set]
set_option maxHeartbeats 4000000 in
theorem civil_put_any (g off k cap : Nat) (l : Bytes) (n : Int) (w : World) (hb : w.heap[g]? = some (bytesO l)) (ho : off + k ≤ l.length) (hk : k ≤ 4) (h0 : 0 ≤ n) (h1 : n ≤ 100000) (hl : l.length ≤ 16) :
    Calls Tryz.prog 133 #[.slice (some ⟨g, off, none⟩) k cap, .int .i64 n] w fun e w' => e = .returned (.tuple #[]) ∧ w'.heap[g]? = some (bytesO (putL l off (digK k n))) ∧ Below g w w' ∧ w'.heap.size = w.heap.size := by
  have HB := hide hb; clear hb
  go_enter Tryz.func133, Tryz.ntmps133
  go_wp2
  go_loopw [1, 4] (fun a i wr => ∃ (r q : Nat) (x : Int), r ≤ k ∧ i = .int .i64 ((r : Int) - 1) ∧ a = .int .i64 x ∧ 0 ≤ x ∧ x ≤ 100000 ∧ Hid (r + q = k ∧ x = n / 10 ^ q ∧ wr.heap[g]? = some (bytesO (putL l (off + r) (digK q n))) ∧ wr.heap.size = w.heap.size) ∧ Below g w wr) (fun _ i _ => (intOf i + 1).toNat)
  case atStart => exact ⟨k, 0, n, by omega, by go_num, rfl, h0, h1, ⟨by omega, by simp, by simp only [digK, putL_nil]; exact HB.out, rfl⟩, Below.refl _ _⟩
  case round =>
    obtain ⟨r, q, x, hr, rfl, rfl, hx0, hx1, HS, hbel⟩ := hrel
    by_cases hz : 0 < r
    · obtain ⟨j, rfl⟩ : ∃ j, r = j + 1 := ⟨r - 1, by omega⟩
      obtain ⟨e1, e2, e3, e4⟩ := HS.out
      have hlen : (putL l (off + (j + 1)) (digK q n)).length = l.length := putL_len _ _ _ (by rw [digK_len]; omega)
      obtain ⟨cv, hcell⟩ : ∃ cv, wr.cell? ⟨g, off + j, none⟩ = some cv := ⟨_, bytes_cell e3 (off + j) (by omega)⟩
      have hfr := bytes_free e3 (off + j) (by omega)
      have HN := hide (show ∀ v, v = byteV (dgt x) → ((wr.setCell ⟨g, off + j, none⟩ v).heap[g]? = some (bytesO (putL l (off + j) (digK (q + 1) n)))) from fun v hv => by
        rw [bytes_set e3 hv, show off + (j + 1) = off + j + 1 by omega, putL_set _ _ _ _ (by rw [digK_len]; omega), digK_cons, e2])
      have HX := hide (show j + (q + 1) = k ∧ x / 10 = n / 10 ^ (q + 1) from ⟨by omega, by rw [e2, Int.pow_succ, Int.ediv_ediv_of_nonneg (Int.pow_nonneg (by omega))]⟩)
      have HH := hide e4
      have hjk : j < k := by omega
      have HD := hide (dgt_nat x)
      rw [show (((j + 1 : Nat) : Int) - 1) = (j : Int) by omega]
      clear e1 e2 e3 e4 hlen HS hz
      go_wp2
      exact ⟨⟨j, q + 1, x / 10, by omega, by go_num, rfl, by omega, by omega, ⟨HX.out.1, HX.out.2, HN.out _ (by unfold byteV; rw [HD.out]), by simp; exact HH.out⟩, hbel.setCell (Nat.le_refl _) _⟩, by simp [intOf]⟩
    · obtain rfl : r = 0 := by omega
      rw [show (((0 : Nat) : Int) - 1) = -1 by omega]
      have HE := hide (show wr.heap[g]? = some (bytesO (putL l off (digK k n))) ∧ wr.heap.size = w.heap.size from by
        obtain ⟨e1, e2, e3, e4⟩ := HS.out
        rw [Nat.zero_add] at e1
        subst e1
        exact ⟨e3, e4⟩)
      clear HS
      go_wp2
      go_end0
      exact ⟨rfl, HE.out.1, hbel, HE.out.2⟩
theorem conv_block {w : World} {g c : Nat} {l : Bytes} (h : w.heap[g]? = some (bytesO l)) (n : Nat) (hn : n = l.length) : (convert 129 9 (.slice (some ⟨g, 0, none⟩) n c)).run Tryz.prog w = .ok (str l) w := by
  subst hn
  rw [run_convert_bytes_arg w 129 5 Tryz.underlying129 Tryz.underlying5 g 0 l.length c (l.map fun c => (c.toNat : Int)) (by simp) (fun i hi => ?_) 9 Tryz.underlying9, strOf_bytes]
  have hi' : i < l.length := by simpa using hi
  rw [Nat.zero_add, bytes_cell h i hi']
  simp [List.getD_eq_getElem?_getD, hi']
theorem put_all {a b c d e : Bytes} (ha : a.length = 4) (hb : b.length = 2) (hc : c.length = 2) (hd : d.length = 2) (he : e.length = 2) :
    putL (putL (putL (putL (putL timeForm 0 a) 5 b) 8 c) 11 d) 14 e = a ++ [45] ++ b ++ [45] ++ c ++ [84] ++ d ++ [58] ++ e := by
  match a, ha with
  | [a0, a1, a2, a3], _ =>
    match b, hb with
    | [b0, b1], _ =>
      match c, hc with
      | [c0, c1], _ =>
        match d, hd with
        | [d0, d1], _ =>
          match e, he with
          | [e0, e1], _ => rfl
set_option maxRecDepth 100000 in
set_option maxHeartbeats 4000000 in
theorem civil_Format_any (n : Int) (w : World) (hG : LenVar w 3) (h0 : 0 ≤ n) (h1 : n ≤ 575999999) : Calls Tryz.prog 100 #[.int .i64 n] w fun e w' => e = .returned (.tuple #[str (fmtS n), .int .i64 0]) ∧ Below w.heap.size w w' := by
  have HF := hide (fun k j d (g : GoodN (n / 1440) k j d) => fmtS_eq ⟨k, j, d, g, rfl⟩)
  have HG := hide hG; clear hG
  have kc := fun (w : World) (C : Array Value) (n c : Nat) => Lib.run_convert_bytes_const (P := Tryz.prog) w 129 5 C n c Tryz.underlying129 Tryz.underlying5
  go_enter Tryz.func100, Tryz.ntmps100
  go_wp2_with fail
  refine (civil_Date_any (n / 1440) _ HG.out (by omega) (by omega)).mono ?_
  rintro e w' ⟨⟨k, j, d, g, rfl⟩, rfl⟩
  have HFF := hide (HF.out k j d g)
  clear HF
  obtain ⟨g1, g2, g3, g4, g5⟩ := g
  have g6 := (lenM_bd (1970 + k) (1 + j)).2
  have g7 : d ≤ 31 := by omega
  clear g4 g5 g6
  have HL := hide (show timeForm.length = 16 from rfl)
  go_wp2_with fail
  refine (civil_put_any w.heap.size 0 4 16 timeForm (1970 + k) _ (heap_alloc_new w _) (by decide) (by omega) (by omega) (by omega) (by decide)).mono ?_
  rintro e w1 ⟨rfl, q1, b1, s1⟩
  have L1 := hide (putL_len timeForm 0 (digK 4 (1970 + k)) (by rw [digK_len]; decide))
  have B1 : Below w.heap.size w w1 := Below.trans (by (repeat (first | exact Below.refl _ _ | assumption | refine Below.drew ?_ | refine below_drewN ?_ _ | refine Below.alloc ?_ (by first | omega | simp <;> omega) _ | refine Below.setCell ?_ (by first | omega | simp <;> omega) _))) b1
  have S1 : w.heap.size < w1.heap.size := by rw [s1]; simp
  have Q1 := hide q1
  clear s1 b1 q1
  go_wp2_with fail
  refine (civil_put_any w.heap.size 5 2 11 _ (1 + j) _ Q1.out (by rw [L1.out]; decide) (by omega) (by omega) (by omega) (by rw [L1.out]; decide)).mono ?_
  rintro e w2 ⟨rfl, q2, b2, s2⟩
  have L2 := hide ((putL_len _ 5 (digK 2 (1 + j)) (by rw [digK_len, L1.out]; decide)).trans L1.out)
  have B2 := B1.trans b2
  have S2 : w.heap.size < w2.heap.size := by rw [s2]; exact S1
  have Q2 := hide q2
  clear s2 b2 q2
  go_wp2_with fail
  refine (civil_put_any w.heap.size 8 2 8 _ d _ Q2.out (by rw [L2.out]; decide) (by omega) (by omega) (by omega) (by rw [L2.out]; decide)).mono ?_
  rintro e w3 ⟨rfl, q3, b3, s3⟩
  have L3 := hide ((putL_len _ 8 (digK 2 d) (by rw [digK_len, L2.out]; decide)).trans L2.out)
  have B3 := B2.trans b3
  have S3 : w.heap.size < w3.heap.size := by rw [s3]; exact S2
  have Q3 := hide q3
  clear s3 b3 q3
  go_wp2_with fail
  refine (civil_put_any w.heap.size 11 2 5 _ (n / 60 % 24) _ Q3.out (by rw [L3.out]; decide) (by omega) (by omega) (by omega) (by rw [L3.out]; decide)).mono ?_
  rintro e w4 ⟨rfl, q4, b4, s4⟩
  have L4 := hide ((putL_len _ 11 (digK 2 (n / 60 % 24)) (by rw [digK_len, L3.out]; decide)).trans L3.out)
  have B4 := B3.trans b4
  have S4 : w.heap.size < w4.heap.size := by rw [s4]; exact S3
  have Q4 := hide q4
  clear s4 b4 q4
  go_wp2_with fail
  refine (civil_put_any w.heap.size 14 2 2 _ (n % 60) _ Q4.out (by rw [L4.out]; decide) (by omega) (by omega) (by omega) (by rw [L4.out]; decide)).mono ?_
  rintro e w5 ⟨rfl, q5, b5, s5⟩
  have L5 := (putL_len _ 14 (digK 2 (n % 60)) (by rw [digK_len, L4.out]; decide)).trans L4.out
  have B5 := B4.trans b5
  have HE := hide (put_all (digK_len 4 (1970 + k)) (digK_len 2 (1 + j)) (digK_len 2 d) (digK_len 2 (n / 60 % 24)) (digK_len 2 (n % 60)))
  have hcv := conv_block (c := 16) q5 16 (L5.trans (by decide)).symm
  clear s5 b5 q5 L5
  rw [HE.out] at hcv
  rw [← HFF.out] at hcv
  go_wp2
  go_ret2
  exact ⟨rfl, B5⟩
end Go.Proofs.YtlfedcbihbigoaaGreatDoor
