/- Contracts that tell the answer: ref5.Index, ref5.Validate, ref4.within, ref4.Validate, ref9.Zone, base.Zones. -/
import Derived.Test.YtlfedcbihbigoaaGreatDoorTotCD
set_option linter.unusedVariables false
set_option linter.unusedSimpArgs false
namespace Go.Proofs.YtlfedcbihbigoaaGreatDoor
open Go.RowKit
/-- The first error of n steps. -/
def firstE (f : Nat → Int) : Nat → Int
  | 0 => 0
  | n + 1 => if firstE f n = 0 then f n else firstE f n
theorem firstE_none {f : Nat → Int} : ∀ {n : Nat}, (∀ j, j < n → f j = 0) → firstE f n = 0
  | 0, _ => rfl
  | n + 1, h => by
    unfold firstE
    rw [if_pos (firstE_none fun j hj => h j (by omega))]
    exact h n (by omega)
theorem firstE_hit {f : Nat → Int} {k : Nat} (h : ∀ j, j < k → f j = 0) (hf : f k ≠ 0) : ∀ {n : Nat}, k < n → firstE f n = f k
  | 0, hk => absurd hk (Nat.not_lt_zero _)
  | n + 1, hk => by
    unfold firstE
    by_cases e : k = n
    · subst e; rw [if_pos (firstE_none h)]
    · have ih := firstE_hit h hf (n := n) (by omega)
      rw [ih, if_neg hf]
/-- The first of n places that has a property, or -1. -/
def firstI (p : Nat → Bool) : Nat → Int
  | 0 => -1
  | n + 1 => if firstI p n < 0 then (if p n = true then (n : Int) else -1) else firstI p n
theorem firstI_none {p : Nat → Bool} : ∀ {n : Nat}, (∀ j, j < n → p j = false) → firstI p n = -1
  | 0, _ => rfl
  | n + 1, h => by
    unfold firstI
    rw [firstI_none fun j hj => h j (by omega), h n (by omega)]
    simp
theorem firstI_hit {p : Nat → Bool} {k : Nat} (h : ∀ j, j < k → p j = false) (hp : p k = true) : ∀ {n : Nat}, k < n → firstI p n = k
  | 0, hk => absurd hk (Nat.not_lt_zero _)
  | n + 1, hk => by
    unfold firstI
    by_cases e : k = n
    · subst e; rw [firstI_none h, hp]; simp
    · have ih := firstI_hit h hp (n := n) (by omega)
      rw [ih, if_neg (by omega)]
theorem firstI_bd (p : Nat → Bool) : ∀ n : Nat, -1 ≤ firstI p n ∧ firstI p n < n
  | 0 => ⟨by simp [firstI], by simp [firstI]⟩
  | n + 1 => by
    have ih := firstI_bd p n
    unfold firstI
    repeat' split
    all_goals omega
theorem step_lt {P : Nat → Prop} {k : Nat} (h : ∀ j, j < k → P j) (hk : P k) : ∀ j, j < k + 1 → P j := fun j hj => by
  by_cases e : j = k
  · subst e; exact hk
  · exact h j (by omega)
def nmIs (cs : List Col) (s : Bytes) (j : Nat) : Bool := match cs[j]? with
  | some c => c.name == s
  | none => false
theorem nmIs_at {cs : List Col} {s : Bytes} {j : Nat} (h : j < cs.length) : nmIs cs s j = (cs[j].name == s) := by
  unfold nmIs; rw [List.getElem?_eq_getElem h]
def idxS (cs : List Col) (s : Bytes) : Int := firstI (nmIs cs s) cs.length
set_option maxRecDepth 100000 in
set_option maxHeartbeats 1000000 in
theorem ref5_Index_s (A : Option Addr) (cs : List Col) (c : Nat) (s : ByteArray) (w : World) (h : ColsAt w A cs) (hl : cs.length ≤ 1000000) :
    Calls Tryz.prog 143 #[.slice A cs.length c, .string s] w fun e w' => e = .returned (.int .i64 (idxS cs (bs s))) ∧ w = w' := by
  have HA := hide h; clear h
  go_enter Tryz.func143, Tryz.ntmps143
  go_wp2
  go_loop [5] (fun i => ∃ k : Nat, k ≤ cs.length ∧ i = .int .i64 k ∧ Hid (∀ j, j < k → nmIs cs (bs s) j = false)) (fun i => cs.length - (intOf i).toNat)
  case atStart => exact ⟨0, by omega, rfl, hide fun j hj => absurd hj (Nat.not_lt_zero _)⟩
  case round =>
    obtain ⟨k, hk, rfl, HN⟩ := hrel
    by_cases hlt : k < cs.length
    · rcases HA.out with e | ⟨g, off, rfl, hg, hc⟩
      · exact absurd hlt (by rw [e]; simp)
      obtain ⟨c0, c1, c2⟩ := hc k hlt
      clear hc
      by_cases he : cs[k].name = bs s
      · have HE := hide (show idxS cs (bs s) = k from firstI_hit HN.out (by rw [nmIs_at hlt, he]; simp) hlt)
        have hb : (cs[k].name == s.toList) = true := by rw [ByteArray.toList_eq]; simp [he, bs]
        clear he
        generalize cs[k] = x at *
        go_wp2
        go_ret
        exact ⟨by rw [HE.out]; rfl, rfl⟩
      · have HN' := hide (step_lt HN.out (show nmIs cs (bs s) k = false by rw [nmIs_at hlt]; simpa using he))
        have hb : (cs[k].name == s.toList) = false := by rw [ByteArray.toList_eq]; simpa [bs] using he
        clear he
        generalize cs[k] = x at *
        go_wp2
        go_round
        case rel => exact ⟨k + 1, by omega, by go_num, HN'⟩
        case measure => simp [intOf]; omega
    · have HE := hide (show idxS cs (bs s) = -1 from firstI_none fun j hj => HN.out j (by omega))
      go_wp2
      go_ret
      exact ⟨by rw [HE.out]; rfl, rfl⟩
def colE (cs : List Col) (j : Nat) : Int := match cs[j]? with
  | none => 0
  | some c => if isNameB 24 c.name = false then 4 else if c.kind < 1 ∨ 4 < c.kind then 7 else if idxS cs c.name ≠ j then 6 else 0
theorem colE_at {cs : List Col} {j : Nat} (h : j < cs.length) : colE cs j = if isNameB 24 cs[j].name = false then 4 else if cs[j].kind < 1 ∨ 4 < cs[j].kind then 7 else if idxS cs cs[j].name ≠ j then 6 else 0 := by
  unfold colE; rw [List.getElem?_eq_getElem h]
def colsV (cs : List Col) : Int := if cs.length < 1 ∨ 12 < cs.length then 2 else firstE (colE cs) cs.length
set_option maxRecDepth 100000 in
set_option maxHeartbeats 1000000 in
theorem ref5_Validate_s (A : Option Addr) (cs : List Col) (c : Nat) (w : World) (h : ColsAt w A cs) (hl : cs.length ≤ 1000000) :
    Calls Tryz.prog 117 #[.slice A cs.length c] w fun e w' => e = .returned (.int .i64 (colsV cs)) ∧ w = w' := by
  have HA := hide h
  have HI := hide (fun s => ref5_Index_s A cs c s w h hl)
  clear h
  by_cases hsz : cs.length < 1 ∨ 12 < cs.length
  · have HE := hide (show colsV cs = 2 from if_pos hsz)
    by_cases h1 : cs.length < 1
    · go_enter Tryz.func117, Tryz.ntmps117
      go_wp2
      go_ret
      exact ⟨by rw [HE.out]; rfl, rfl⟩
    · have h2 : 12 < cs.length := by omega
      go_enter Tryz.func117, Tryz.ntmps117
      go_wp2
      go_ret
      exact ⟨by rw [HE.out]; rfl, rfl⟩
  have HE := hide (show colsV cs = firstE (colE cs) cs.length from if_neg hsz)
  have h1 : ¬ cs.length < 1 := by omega
  have h2 : ¬ 12 < cs.length := by omega
  clear hsz
  go_enter Tryz.func117, Tryz.ntmps117
  go_wp2
  go_loop [3] (fun i => ∃ k : Nat, k ≤ cs.length ∧ i = .int .i64 k ∧ Hid (∀ j, j < k → colE cs j = 0)) (fun i => cs.length - (intOf i).toNat)
  case atStart => exact ⟨0, by omega, rfl, hide fun j hj => absurd hj (Nat.not_lt_zero _)⟩
  case round =>
    obtain ⟨k, hk, rfl, HN⟩ := hrel
    by_cases hlt : k < cs.length
    · rcases HA.out with e | ⟨g, off, rfl, hg, hc⟩
      · exact absurd hlt (by rw [e]; simp)
      obtain ⟨c0, c1, c2⟩ := hc k hlt
      clear hc
      have HC := colE_at hlt
      have HR := hide (fun (v : Int) (hv : colE cs k = v) (hn : v ≠ 0) => show colsV cs = v from HE.out.trans ((firstE_hit HN.out (by rw [hv]; exact hn) hlt).trans hv))
      have HN' := hide (fun hv : colE cs k = 0 => step_lt HN.out hv)
      generalize colE cs k = v0 at *
      generalize cs[k] = x at *
      obtain ⟨b, hb⟩ : ∃ b, isNameB 24 x.name = b := ⟨_, rfl⟩
      obtain ⟨i, hi⟩ : ∃ i, idxS cs x.name = i := ⟨_, rfl⟩
      rw [hb, hi] at HC
      have HIs := hide (fun W => by
        have := ref5_IsName_any ⟨x.name.toArray⟩ W
        rw [show isNameB 24 (bs ⟨x.name.toArray⟩) = b from hb] at this
        exact this)
      have HIx := hide (by
        have := HI.out ⟨x.name.toArray⟩
        rw [show idxS cs (bs ⟨x.name.toArray⟩) = i from hi] at this
        exact this)
      clear hb hi HI HE
      cases b
      · have HV := hide (HR.out 4 (by rw [HC]; simp) (by decide))
        clear HC HR HN'
        go_wp2_with (go_at_call 105; refine (HIs.out _).mono ?_; rintro e w' ⟨rfl, rfl⟩)
        go_ret
        exact ⟨by rw [HV.out]; rfl, rfl⟩
      by_cases q1 : x.kind < 1
      · have HV := hide (HR.out 7 (by rw [HC]; simp [q1]) (by decide))
        clear HC HR HN'
        go_wp2_with (go_at_call 105; refine (HIs.out _).mono ?_; rintro e w' ⟨rfl, rfl⟩)
        go_ret
        exact ⟨by rw [HV.out]; rfl, rfl⟩
      by_cases q2 : 4 < x.kind
      · have HV := hide (HR.out 7 (by rw [HC]; simp [q2]) (by decide))
        clear HC HR HN'
        go_wp2_with (go_at_call 105; refine (HIs.out _).mono ?_; rintro e w' ⟨rfl, rfl⟩)
        go_ret
        exact ⟨by rw [HV.out]; rfl, rfl⟩
      by_cases q3 : i = k
      · subst q3
        have q6 : ((k : Int) != (k : Int)) = false := by simp
        have HV := hide (HN'.out (by rw [HC]; simp [q1, q2]))
        clear HC HR HN'
        go_wp2_with (first | (go_at_call 105; refine (HIs.out _).mono ?_; rintro e w' ⟨rfl, rfl⟩) | (go_at_call 143; refine (HIx.out).mono ?_; rintro e w' ⟨rfl, rfl⟩))
        exact ⟨⟨k + 1, by omega, by go_num, HV⟩, by simp [intOf]; omega⟩
      · have q4 : (i == (k : Int)) = false := beq_eq_false_iff_ne.2 q3
        have q5 : (i != (k : Int)) = true := by simpa using q3
        have HV := hide (HR.out 6 (by rw [HC]; simp [q1, q2, q3]) (by decide))
        clear HC HR HN'
        go_wp2_with (first | (go_at_call 105; refine (HIs.out _).mono ?_; rintro e w' ⟨rfl, rfl⟩) | (go_at_call 143; refine (HIx.out).mono ?_; rintro e w' ⟨rfl, rfl⟩))
        go_ret
        exact ⟨by rw [HV.out]; rfl, rfl⟩
    · have HV := hide (HE.out.trans (firstE_none fun j hj => HN.out j (by omega)))
      go_wp2
      go_ret
      exact ⟨by rw [HV.out]; rfl, rfl⟩

def inB (x : Int) : Bool := decide (-840 ≤ x) && decide (x ≤ 840)
theorem ref4_within_s (x : Int) (W : World) : Calls Tryz.prog 144 #[.int .i64 x] W fun e w' => e = .returned (.bool (inB x)) ∧ W = w' := by
  have HE := hide (show inB x = (decide (-840 ≤ x) && decide (x ≤ 840)) from rfl)
  go_enter Tryz.func144, Tryz.ntmps144
  go_wp2
  all_goals
    go_ret
    exact ⟨ret_bool (by rw [HE.out]; first | (simp_all; done) | (simp_all; omega)), rfl⟩
/-- A slice that reads as a list of shifts. -/
def ShsAt (w : World) (S : Option Addr) (sh : List (Int × Int)) : Prop :=
  sh = [] ∨ ∃ g off, S = some ⟨g, off, none⟩ ∧ g < w.heap.size ∧ ∀ i (h : i < sh.length), w.cell? ⟨g, off + i * 2, none⟩ = some (.int .i64 sh[i].1) ∧ w.cell? ⟨g, off + i * 2 + 1, none⟩ = some (.int .i64 sh[i].2)
theorem ShsAt.below {w w' : World} {S : Option Addr} {sh : List (Int × Int)} (h : ShsAt w S sh) (hb : Below w.heap.size w w') : ShsAt w' S sh := by
  rcases h with h | ⟨g, off, hA, hg, hc⟩
  · exact .inl h
  · refine .inr ⟨g, off, hA, Nat.lt_of_lt_of_le hg hb.size, fun i hi => ?_⟩
    obtain ⟨h1, h2⟩ := hc i hi
    exact ⟨(hb.cell (p := ⟨g, _, none⟩) hg).trans h1, (hb.cell (p := ⟨g, _, none⟩) hg).trans h2⟩
def shB (s : Int × Int) : Bool := decide (s.1 < 1) || decide (575999999 < s.1) || !inB s.2
def shE (sh : List (Int × Int)) (j : Nat) : Int := match sh[j]?, sh[j - 1]? with
  | some s, some p => if shB s = true then 1 else if 0 < j ∧ s.1 ≤ p.1 then 14 else 0
  | _, _ => 0
theorem shE_at {sh : List (Int × Int)} {j : Nat} (h : j < sh.length) : shE sh j = if shB sh[j] = true then 1 else if 0 < j ∧ sh[j].1 ≤ (sh[j - 1]'(by omega)).1 then 14 else 0 := by
  unfold shE; rw [List.getElem?_eq_getElem h, List.getElem?_eq_getElem (show j - 1 < sh.length by omega)]
def zonE (o : Int) (sh : List (Int × Int)) : Int := if 64 < sh.length then 2 else if inB o = false then 1 else firstE (shE sh) sh.length
set_option maxRecDepth 100000 in
set_option maxHeartbeats 2000000 in
theorem ref4_Validate_s (nm : ByteArray) (o : Int) (S : Option Addr) (sh : List (Int × Int)) (c : Nat) (w : World) (h : ShsAt w S sh) (hl : sh.length ≤ 1000000) :
    Calls Tryz.prog 118 #[.agg #[.string nm, .int .i64 o, .slice S sh.length c]] w fun e w' => e = .returned (.int .i64 (zonE o sh)) ∧ Below w.heap.size w w' := by
  have HA := hide h; clear h
  have HW := hide (fun W => ref4_within_s o W)
  have H1 := hide (show 64 < sh.length → zonE o sh = 2 from fun h => if_pos h)
  have H2 := hide (show ¬ 64 < sh.length → inB o = false → zonE o sh = 1 from fun h h2 => by unfold zonE; rw [if_neg h, if_pos h2])
  have H3 := hide (show ¬ 64 < sh.length → ¬ inB o = false → zonE o sh = firstE (shE sh) sh.length from fun h h2 => by unfold zonE; rw [if_neg h, if_neg h2])
  generalize inB o = b0 at *
  by_cases h64 : 64 < sh.length
  · have HV := hide (H1.out h64)
    go_enter Tryz.func118, Tryz.ntmps118
    go_wp2_with (go_at_call 144; refine (HW.out _).mono ?_; rintro e w' ⟨rfl, rfl⟩)
    go_ret
    exact ⟨by rw [HV.out]; rfl, by (repeat (first | exact Below.refl _ _ | assumption | refine Below.drew ?_ | refine below_drewN ?_ _ | refine Below.alloc ?_ (by first | omega | (simp; done) | (simp; omega)) _ | refine Below.setCell ?_ (by first | omega | (simp; done) | (simp; omega)) _))⟩
  cases b0
  · have HV := hide (H2.out h64 rfl)
    go_enter Tryz.func118, Tryz.ntmps118
    go_wp2_with (go_at_call 144; refine (HW.out _).mono ?_; rintro e w' ⟨rfl, rfl⟩)
    go_ret
    exact ⟨by rw [HV.out]; rfl, by (repeat (first | exact Below.refl _ _ | assumption | refine Below.drew ?_ | refine below_drewN ?_ _ | refine Below.alloc ?_ (by first | omega | (simp; done) | (simp; omega)) _ | refine Below.setCell ?_ (by first | omega | (simp; done) | (simp; omega)) _))⟩
  have HE := hide (H3.out h64 (by simp))
  clear H1 H2 H3
  go_enter Tryz.func118, Tryz.ntmps118
  go_wp2_with (go_at_call 144; refine (HW.out _).mono ?_; rintro e w' ⟨rfl, rfl⟩)
  · generalize hW : w.alloc _ = W1
    have hB : Below w.heap.size w W1 := by subst hW; (repeat (first | exact Below.refl _ _ | assumption | refine Below.drew ?_ | refine below_drewN ?_ _ | refine Below.alloc ?_ (by first | omega | (simp; done) | (simp; omega)) _ | refine Below.setCell ?_ (by first | omega | (simp; done) | (simp; omega)) _))
    have hh : W1.heap[w.heap.size]? = some (.cells #[.string nm, .int .i64 o, .slice S sh.length c] 149) := by subst hW; exact heap_alloc_new w _
    clear hW
    go_loopw [3] (fun i wr => ∃ k : Nat, k ≤ sh.length ∧ i = .int .i64 k ∧ Hid (∀ j, j < k → shE sh j = 0) ∧ Below W1.heap.size W1 wr) (fun i _ => sh.length - (intOf i).toNat)
    case atStart => exact ⟨0, by omega, rfl, hide fun j hj => absurd hj (Nat.not_lt_zero _), Below.refl _ _⟩
    case round =>
      obtain ⟨k, hk, rfl, HN, hbel⟩ := hrel
      have hh2 := (hbel.block _ (lt_of_heap hh)).trans hh
      have z0 : wr.cell? ⟨w.heap.size, 2, none⟩ = some (.slice S sh.length c) := by rw [cell_of_heap hh2]; rfl
      have hsz := hbel.size
      have hbw := bel2 hbel hB
      have hbz := hB.size
      have hlw := lt_of_heap hh
      have HH := hide hh
      clear hh hh2
      by_cases hlt : k < sh.length
      · rcases (HA.out.below hB).below hbel with e | ⟨g, off, rfl, hg, hc⟩
        · exact absurd hlt (by rw [e]; simp)
        obtain ⟨c0, c1⟩ := hc k hlt
        have HC := shE_at hlt
        have HR := hide (fun (v : Int) (hv : shE sh k = v) (hn : v ≠ 0) => show zonE o sh = v from HE.out.trans ((firstE_hit HN.out (by rw [hv]; exact hn) hlt).trans hv))
        have HN' := hide (fun hv : shE sh k = 0 => step_lt HN.out hv)
        generalize shE sh k = v0 at *
        have HWi := hide (fun (x : Int) W => ref4_within_s x W)
        by_cases hk0 : k = 0
        · have d0 : decide ((0 : Int) < (k : Int)) = false := by simp; omega
          have d1 : decide (0 < k) = false := by simp; omega
          rw [if_neg (show ¬ (0 < k ∧ sh[k].1 ≤ (sh[k - 1]'(by omega)).1) from fun h => by omega)] at HC
          clear hc hk0
          generalize sh[k] = x at *
          obtain ⟨a, b⟩ := x
          have HS := hide (show shB (a, b) = (decide (a < 1) || decide (575999999 < a) || !inB b) from rfl)
          have HWb := hide (fun W => ref4_within_s b W)
          generalize inB b = bb at *
          simp only at c0 c1
          have hlx : w.heap.size < wr.heap.size := by omega
          by_cases a1 : a < 1
          · have HV := hide (HR.out 1 (by rw [HC, if_pos (by rw [HS.out]; simp_all)]) (by decide))
            clear HC HR HN'
            go_wp2_with (go_at_call 144; refine (HWb.out _).mono ?_; rintro e w' ⟨rfl, rfl⟩)
            go_ret
            exact ⟨by rw [HV.out]; rfl, by first | exact hbw | ((repeat (first | exact Below.refl _ _ | assumption | refine Below.drew ?_ | refine below_drewN ?_ _ | refine Below.alloc ?_ (by first | omega | (simp; done) | (simp; omega)) _ | refine Below.setCell ?_ (by first | omega | (simp; done) | (simp; omega)) _)); done) | exact hbw.alloc (by omega) _⟩
          by_cases a2 : 575999999 < a
          · have HV := hide (HR.out 1 (by rw [HC, if_pos (by rw [HS.out]; simp_all)]) (by decide))
            clear HC HR HN'
            go_wp2_with (go_at_call 144; refine (HWb.out _).mono ?_; rintro e w' ⟨rfl, rfl⟩)
            go_ret
            exact ⟨by rw [HV.out]; rfl, by first | exact hbw | ((repeat (first | exact Below.refl _ _ | assumption | refine Below.drew ?_ | refine below_drewN ?_ _ | refine Below.alloc ?_ (by first | omega | (simp; done) | (simp; omega)) _ | refine Below.setCell ?_ (by first | omega | (simp; done) | (simp; omega)) _)); done) | exact hbw.alloc (by omega) _⟩
          cases bb
          · have HV := hide (HR.out 1 (by rw [HC, if_pos (by rw [HS.out]; simp_all)]) (by decide))
            clear HC HR HN'
            go_wp2_with (go_at_call 144; refine (HWb.out _).mono ?_; rintro e w' ⟨rfl, rfl⟩)
            go_ret
            exact ⟨by rw [HV.out]; rfl, by first | exact hbw | ((repeat (first | exact Below.refl _ _ | assumption | refine Below.drew ?_ | refine below_drewN ?_ _ | refine Below.alloc ?_ (by first | omega | (simp; done) | (simp; omega)) _ | refine Below.setCell ?_ (by first | omega | (simp; done) | (simp; omega)) _)); done) | exact hbw.alloc (by omega) _⟩
          have HF := hide (show shB (a, b) = false by rw [HS.out]; simp; omega)
          have HV := hide (HN'.out (by rw [HC, if_neg (by rw [HF.out]; simp)]))
          clear HC HR HN'
          go_wp2_with (go_at_call 144; refine (HWb.out _).mono ?_; rintro e w' ⟨rfl, rfl⟩)
          go_big_quiet (fail)
          go_wp2
          exact ⟨⟨k + 1, by omega, by go_num, HV, by (repeat (first | exact Below.refl _ _ | assumption | refine Below.drew ?_ | refine below_drewN ?_ _ | refine Below.alloc ?_ (by first | omega | (simp; done) | (simp; omega)) _ | refine Below.setCell ?_ (by first | omega | (simp; done) | (simp; omega)) _))⟩, by simp [intOf]; omega⟩
        · have hc2 := (hc (k - 1) (by omega)).1
          have d0 : decide ((0 : Int) < (k : Int)) = true := by simp; omega
          have d1 : decide (0 < k) = true := by simp; omega
          have hw : IntKind.i64.wrap ((k : Int) - 1) = (k : Int) - 1 := IntWalk.i64_in _ (by omega)
          have ht : ((k : Int) - 1).toNat = k - 1 := by omega
          have hi0 : (0 : Int) ≤ (k : Int) - 1 := by omega
          have hi2 : (1 : Int) ≤ (k : Int) := by omega
          have hi1 : (k : Int) - 1 < (sh.length : Int) := by omega
          clear hc
          generalize sh[k] = x at *
          generalize (sh[k - 1]'(by omega)).1 = y at *
          obtain ⟨a, b⟩ := x
          have HS := hide (show shB (a, b) = (decide (a < 1) || decide (575999999 < a) || !inB b) from rfl)
          have HWb := hide (fun W => ref4_within_s b W)
          generalize inB b = bb at *
          simp only at c0 c1
          have hlx : w.heap.size < wr.heap.size := by omega
          by_cases a1 : a < 1
          · have HV := hide (HR.out 1 (by rw [HC, if_pos (by rw [HS.out]; simp_all)]) (by decide))
            clear HC HR HN'
            go_wp2_with (go_at_call 144; refine (HWb.out _).mono ?_; rintro e w' ⟨rfl, rfl⟩)
            go_ret
            exact ⟨by rw [HV.out]; rfl, by first | exact hbw | ((repeat (first | exact Below.refl _ _ | assumption | refine Below.drew ?_ | refine below_drewN ?_ _ | refine Below.alloc ?_ (by first | omega | (simp; done) | (simp; omega)) _ | refine Below.setCell ?_ (by first | omega | (simp; done) | (simp; omega)) _)); done) | exact hbw.alloc (by omega) _⟩
          by_cases a2 : 575999999 < a
          · have HV := hide (HR.out 1 (by rw [HC, if_pos (by rw [HS.out]; simp_all)]) (by decide))
            clear HC HR HN'
            go_wp2_with (go_at_call 144; refine (HWb.out _).mono ?_; rintro e w' ⟨rfl, rfl⟩)
            go_ret
            exact ⟨by rw [HV.out]; rfl, by first | exact hbw | ((repeat (first | exact Below.refl _ _ | assumption | refine Below.drew ?_ | refine below_drewN ?_ _ | refine Below.alloc ?_ (by first | omega | (simp; done) | (simp; omega)) _ | refine Below.setCell ?_ (by first | omega | (simp; done) | (simp; omega)) _)); done) | exact hbw.alloc (by omega) _⟩
          cases bb
          · have HV := hide (HR.out 1 (by rw [HC, if_pos (by rw [HS.out]; simp_all)]) (by decide))
            clear HC HR HN'
            go_wp2_with (go_at_call 144; refine (HWb.out _).mono ?_; rintro e w' ⟨rfl, rfl⟩)
            go_ret
            exact ⟨by rw [HV.out]; rfl, by first | exact hbw | ((repeat (first | exact Below.refl _ _ | assumption | refine Below.drew ?_ | refine below_drewN ?_ _ | refine Below.alloc ?_ (by first | omega | (simp; done) | (simp; omega)) _ | refine Below.setCell ?_ (by first | omega | (simp; done) | (simp; omega)) _)); done) | exact hbw.alloc (by omega) _⟩
          have HF := hide (show shB (a, b) = false by rw [HS.out]; simp; omega)
          by_cases hy : a ≤ y
          · have HV := hide (HR.out 14 (by rw [HC, if_neg (by rw [HF.out]; simp), if_pos ⟨by omega, hy⟩]) (by decide))
            clear HC HR HN'
            go_wp2_with (go_at_call 144; refine (HWb.out _).mono ?_; rintro e w' ⟨rfl, rfl⟩)
            go_big_quiet (fail)
            go_wp2
            go_ret
            exact ⟨by rw [HV.out]; rfl, by first | ((repeat (first | exact Below.refl _ _ | assumption | refine Below.drew ?_ | refine below_drewN ?_ _ | refine Below.alloc ?_ (by first | omega | (simp; done) | (simp; omega)) _ | refine Below.setCell ?_ (by first | omega | (simp; done) | (simp; omega)) _)); done) | exact (hbw.alloc (by omega) _).drew⟩
          · have HV := hide (HN'.out (by rw [HC, if_neg (by rw [HF.out]; simp), if_neg (fun h => hy h.2)]))
            clear HC HR HN'
            go_wp2_with (go_at_call 144; refine (HWb.out _).mono ?_; rintro e w' ⟨rfl, rfl⟩)
            go_big_quiet (fail)
            go_wp2
            exact ⟨⟨k + 1, by omega, by go_num, HV, by (repeat (first | exact Below.refl _ _ | assumption | refine Below.drew ?_ | refine below_drewN ?_ _ | refine Below.alloc ?_ (by first | omega | (simp; done) | (simp; omega)) _ | refine Below.setCell ?_ (by first | omega | (simp; done) | (simp; omega)) _))⟩, by simp [intOf]; omega⟩
      · have HV := hide (HE.out.trans (firstE_none fun j hj => HN.out j (by omega)))
        go_wp2
        go_ret
        exact ⟨by rw [HV.out]; rfl, hbw⟩
end Go.Proofs.YtlfedcbihbigoaaGreatDoor

namespace Go.Proofs.YtlfedcbihbigoaaGreatDoor
open Go.RowKit
structure Zon where
  name : Bytes
  off : Int
  sh : List (Int × Int)
/-- A slice that reads as a list of zones. -/
def ZnsAt (w : World) (Z : Option Addr) (zs : List Zon) : Prop :=
  zs = [] ∨ ∃ g off, Z = some ⟨g, off, none⟩ ∧ g < w.heap.size ∧ ∀ i (h : i < zs.length), ∃ (S : Option Addr) (sc : Nat),
    w.cell? ⟨g, off + i * 3, none⟩ = some (str zs[i].name) ∧ w.cell? ⟨g, off + i * 3 + 1, none⟩ = some (.int .i64 zs[i].off) ∧ w.cell? ⟨g, off + i * 3 + 2, none⟩ = some (.slice S zs[i].sh.length sc) ∧ ShsAt w S zs[i].sh ∧ zs[i].sh.length ≤ 1000000
theorem ZnsAt.below {w w' : World} {Z : Option Addr} {zs : List Zon} (h : ZnsAt w Z zs) (hb : Below w.heap.size w w') : ZnsAt w' Z zs := by
  rcases h with h | ⟨g, off, hA, hg, hc⟩
  · exact .inl h
  · refine .inr ⟨g, off, hA, Nat.lt_of_lt_of_le hg hb.size, fun i hi => ?_⟩
    obtain ⟨S, sc, h1, h2, h3, h4, h5⟩ := hc i hi
    exact ⟨S, sc, (hb.cell (p := ⟨g, _, none⟩) hg).trans h1, (hb.cell (p := ⟨g, _, none⟩) hg).trans h2, (hb.cell (p := ⟨g, _, none⟩) hg).trans h3, h4.below hb, h5⟩
def znIs (zs : List Zon) (s : Bytes) (j : Nat) : Bool := match zs[j]? with
  | some z => z.name == s
  | none => false
theorem znIs_at {zs : List Zon} {s : Bytes} {j : Nat} (h : j < zs.length) : znIs zs s j = (zs[j].name == s) := by
  unfold znIs; rw [List.getElem?_eq_getElem h]
def hasZ (zs : List Zon) (s : Bytes) : Bool := decide (0 ≤ firstI (znIs zs s) zs.length)
def zerE (zs : List Zon) (j : Nat) : Int := match zs[j]? with
  | some z => zonE z.off z.sh
  | none => 0
theorem zerE_at {zs : List Zon} {j : Nat} (h : j < zs.length) : zerE zs j = zonE zs[j].off zs[j].sh := by
  unfold zerE; rw [List.getElem?_eq_getElem h]
def ZnB (b : Bool) (e : Ending) : Prop := ∃ (nm : ByteArray) (o : Int) (S : Option Addr) (sm sc : Nat), e = .returned (.tuple #[.agg #[.string nm, .int .i64 o, .slice S sm sc], .bool b])
set_option maxRecDepth 100000 in
set_option maxHeartbeats 1000000 in
theorem ref9_Zone_s (Z : Option Addr) (zs : List Zon) (c : Nat) (s : ByteArray) (w : World) (h : ZnsAt w Z zs) (hl : zs.length ≤ 1000000) :
    Calls Tryz.prog 147 #[.slice Z zs.length c, .string s] w fun e w' => ZnB (hasZ zs (bs s)) e ∧ Below w.heap.size w w' := by
  have HA := hide h; clear h
  go_enter Tryz.func147, Tryz.ntmps147
  go_wp2
  go_loop [6] (fun i => ∃ k : Nat, k ≤ zs.length ∧ i = .int .i64 k ∧ Hid (∀ j, j < k → znIs zs (bs s) j = false)) (fun i => zs.length - (intOf i).toNat)
  case atStart => exact ⟨0, by omega, rfl, hide fun j hj => absurd hj (Nat.not_lt_zero _)⟩
  case round =>
    obtain ⟨k, hk, rfl, HN⟩ := hrel
    by_cases hlt : k < zs.length
    · rcases HA.out with e | ⟨g, off, rfl, hg, hc⟩
      · exact absurd hlt (by rw [e]; simp)
      obtain ⟨S, sc, c0, c1, c2, _, _⟩ := hc k hlt
      clear hc
      by_cases he : zs[k].name = bs s
      · have HE := hide (show hasZ zs (bs s) = true by unfold hasZ; rw [firstI_hit HN.out (by rw [znIs_at hlt, he]; simp) hlt]; simp)
        have hb : (zs[k].name == s.toList) = true := by rw [ByteArray.toList_eq]; simp [he, bs]
        clear he
        generalize zs[k] = x at *
        go_wp2
        refine bodyPost_ret (v := .tuple #[.agg #[.string ⟨x.name.toArray⟩, .int .i64 x.off, .slice S x.sh.length sc], .bool true]) (by simp [results, Tryz.results147, go_sem]) rfl ⟨⟨_, _, _, _, _, by rw [HE.out]⟩, by (repeat (first | exact Below.refl _ _ | assumption | refine Below.drew ?_ | refine below_drewN ?_ _ | refine Below.alloc ?_ (by first | omega | (simp; done) | (simp; omega)) _ | refine Below.setCell ?_ (by first | omega | (simp; done) | (simp; omega)) _))⟩
      · have HN' := hide (step_lt HN.out (show znIs zs (bs s) k = false by rw [znIs_at hlt]; simpa using he))
        have hb : (zs[k].name == s.toList) = false := by rw [ByteArray.toList_eq]; simpa [bs] using he
        clear he
        generalize zs[k] = x at *
        go_wp2
        go_round
        case rel => exact ⟨k + 1, by omega, by go_num, HN'⟩
        case measure => simp [intOf]; omega
    · have HE := hide (show hasZ zs (bs s) = false by unfold hasZ; rw [firstI_none fun j hj => HN.out j (by omega)]; simp)
      go_wp2
      refine bodyPost_ret (v := .tuple #[.agg #[.string ⟨#[]⟩, .int .i64 0, .slice none 0 0], .bool false]) (by simp [results, Tryz.results147, go_sem]) rfl ⟨⟨_, _, _, _, _, by rw [HE.out]⟩, by (repeat (first | exact Below.refl _ _ | assumption | refine Below.drew ?_ | refine below_drewN ?_ _ | refine Below.alloc ?_ (by first | omega | (simp; done) | (simp; omega)) _ | refine Below.setCell ?_ (by first | omega | (simp; done) | (simp; omega)) _))⟩
def zonesL : List Zon := [⟨[122, 48], 60, []⟩, ⟨[122, 49], -300, [(145000, -240), (147000, -300)]⟩, ⟨[122, 50], 120, [(145450, 0)]⟩]
set_option maxRecDepth 100000 in
set_option maxHeartbeats 1000000 in
theorem base_Zones_s (w : World) : Calls Tryz.prog 82 #[] w fun e w' => (∃ (Z : Option Addr) (c : Nat), e = .returned (.slice Z zonesL.length c) ∧ ZnsAt w' Z zonesL) ∧ Below w.heap.size w w' := by
  go_enter Tryz.func82, Tryz.ntmps82
  go_wp2
  go_ret
  refine ⟨⟨_, 3, rfl, .inr ⟨w.heap.size + 1 + 1, 0, rfl, by simp, fun i hi => ?_⟩⟩, by (repeat (first | exact Below.refl _ _ | assumption | refine Below.drew ?_ | refine below_drewN ?_ _ | refine Below.alloc ?_ (by first | omega | (simp; done) | (simp; omega)) _ | refine Below.setCell ?_ (by first | omega | (simp; done) | (simp; omega)) _))⟩
  match i, hi with
  | 0, _ => exact ⟨none, 0, by first | (simp [go_sem, zonesL]; done) | (simp [go_sem, zonesL]; rfl), by simp [go_sem, zonesL], by simp [go_sem, zonesL], .inl rfl, by simp [zonesL]⟩
  | 1, _ => exact ⟨some ⟨w.heap.size, 0, none⟩, 2, by first | (simp [go_sem, zonesL]; done) | (simp [go_sem, zonesL]; rfl), by simp [go_sem, zonesL], by simp [go_sem, zonesL], .inr ⟨w.heap.size, 0, rfl, by first | (simp; done) | (simp; omega), fun j hj => by
      match j, hj with
      | 0, _ => exact ⟨by simp [go_sem, zonesL], by simp [go_sem, zonesL]⟩
      | 1, _ => exact ⟨by simp [go_sem, zonesL], by simp [go_sem, zonesL]⟩⟩, by simp [zonesL]⟩
  | 2, _ => exact ⟨some ⟨w.heap.size + 1, 0, none⟩, 1, by first | (simp [go_sem, zonesL]; done) | (simp [go_sem, zonesL]; rfl), by simp [go_sem, zonesL], by simp [go_sem, zonesL], .inr ⟨w.heap.size + 1, 0, rfl, by first | (simp; done) | (simp; omega), fun j hj => by
      match j, hj with
      | 0, _ => exact ⟨by simp [go_sem, zonesL], by simp [go_sem, zonesL]⟩⟩, by simp [zonesL]⟩
end Go.Proofs.YtlfedcbihbigoaaGreatDoor
