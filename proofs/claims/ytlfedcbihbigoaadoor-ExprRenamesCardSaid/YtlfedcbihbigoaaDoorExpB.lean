/- Contracts: expr.shaped. -/
import Derived.Test.YtlfedcbihbigoaaDoorExpA
set_option linter.unusedVariables false
set_option linter.unusedSimpArgs false
namespace Go.Proofs.YtlfedcbihbigoaaDoor
open Go.RowKit Go.WideMaps Go.Maps
set_option maxRecDepth 100000 in
set_option maxHeartbeats 2000000 in
theorem shaped_0 (k m a : Int) (x nm : ByteArray) (w : World) (hW : StrVar w 0 wordsS) : Calls Tryd.prog 23 #[ndV 0 k m x nm a] w fun e w' => e = .returned (.bool (shapedN 0 k m (bs x) (bs nm) a)) ∧ Below w.heap.size w w' := by
  have H1 := hide (fun W => value_Valid_any k m x W)
  have hcur := Below.refl (w.heap.size + 1) (w.alloc (ndBox 0 k m x nm a))
  clear hW
  have HE := hide (shapedN_0 k m a (bs x) (bs nm))
  have HZ := zero_cases k m x
  have HY := hide (bs_toList nm)
  generalize validV k m (bs x) = v at *
  generalize shapedN 0 k m (bs x) (bs nm) a = r at *
  rcases HZ with ⟨rfl, rfl, rfl, z⟩ | ⟨z1, z⟩ | ⟨rfl, z1, z⟩ | ⟨rfl, rfl, z1, z2, z⟩ <;> (try rw [z] at HE) <;> clear z
  all_goals rcases zero_or a with rfl | za
  all_goals
    go_enter Tryd.func23, Tryd.ntmps23
    go_wp2_with (first
      | (go_at_call 37; refine (H1.out _).mono ?_; rintro e w1 ⟨rfl, hb1⟩; have hcur := below_go hcur (by simp) hb1; obtain ⟨k0, k1, k2, k3, k4, k5, k6⟩ := box6 hcur; clear hb1))
    all_goals
      go_ret
      refine ⟨ret_bool ?_, by first | exact box_below hcur | (repeat (first | exact Below.refl _ _ | assumption | refine Below.drew ?_ | refine below_drewN ?_ _ | refine Below.alloc ?_ (by first | omega | (simp; done) | (simp; omega)) _ | refine Below.setCell ?_ (by first | omega | (simp; done) | (simp; omega)) _))⟩
      have he := HE.out
      have hy := HY.out
      clear HE HY H1
      (try rw [hy] at he)
      clear hy
      rw [he]
      clear he
      grind
set_option maxRecDepth 100000 in
set_option maxHeartbeats 2000000 in
theorem shaped_1 (k m a : Int) (x nm : ByteArray) (w : World) (hW : StrVar w 0 wordsS) : Calls Tryd.prog 23 #[ndV 1 k m x nm a] w fun e w' => e = .returned (.bool (shapedN 1 k m (bs x) (bs nm) a)) ∧ Below w.heap.size w w' := by
  have H1 := hide (fun W => schema_IsName_any nm W)
  have HR := hide (fun W (hb : Below w.heap.size w W) => token_Reserved_w nm W (hW.below hb))
  have hcur := Below.refl (w.heap.size + 1) (w.alloc (ndBox 1 k m x nm a))
  clear hW
  have HE := hide (shapedN_1 k m a (bs x) (bs nm))
  have HZ := zero_cases k m x
  have HY := hide (bs_toList nm)
  generalize isNameB 24 (bs nm) = p at *
  generalize resB (bs nm) = q at *
  generalize shapedN 1 k m (bs x) (bs nm) a = r at *
  rcases HZ with ⟨rfl, rfl, rfl, z⟩ | ⟨z1, z⟩ | ⟨rfl, z1, z⟩ | ⟨rfl, rfl, z1, z2, z⟩ <;> (try rw [z] at HE) <;> clear z
  all_goals rcases zero_or a with rfl | za
  all_goals
    go_enter Tryd.func23, Tryd.ntmps23
    go_wp2_with (first
      | (go_at_call 38; refine (H1.out _).mono ?_; rintro e w1 ⟨rfl, hb1⟩; have hcur := below_go hcur (by simp) hb1; obtain ⟨k0, k1, k2, k3, k4, k5, k6⟩ := box6 hcur; clear hb1)
      | (go_at_call 39; refine (HR.out _ (box_below hcur)).mono ?_; rintro e w1 ⟨rfl, rfl⟩))
    all_goals
      go_ret
      refine ⟨ret_bool ?_, by first | exact box_below hcur | (repeat (first | exact Below.refl _ _ | assumption | refine Below.drew ?_ | refine below_drewN ?_ _ | refine Below.alloc ?_ (by first | omega | (simp; done) | (simp; omega)) _ | refine Below.setCell ?_ (by first | omega | (simp; done) | (simp; omega)) _))⟩
      have he := HE.out
      have hy := HY.out
      clear HE HY H1 HR
      (try rw [hy] at he)
      clear hy
      rw [he]
      clear he
      grind
set_option maxRecDepth 100000 in
set_option maxHeartbeats 2000000 in
theorem shaped_20 (k m a : Int) (x nm : ByteArray) (w : World) (hW : StrVar w 0 wordsS) (hn : nm.size ≤ maxLen) : Calls Tryd.prog 23 #[ndV 20 k m x nm a] w fun e w' => e = .returned (.bool (shapedN 20 k m (bs x) (bs nm) a)) ∧ Below w.heap.size w w' := by
  have H1 := hide (fun W => schema_IsQualified_any nm W hn)
  have HR := hide (fun W (hb : Below w.heap.size w W) => token_Reserved_w nm W (hW.below hb))
  have hcur := Below.refl (w.heap.size + 1) (w.alloc (ndBox 20 k m x nm a))
  clear hn
  clear hW
  have HE := hide (shapedN_20 k m a (bs x) (bs nm))
  have HZ := zero_cases k m x
  have HY := hide (bs_toList nm)
  generalize isQualB 24 (bs nm) = p at *
  generalize resB (bs nm) = q at *
  generalize shapedN 20 k m (bs x) (bs nm) a = r at *
  rcases HZ with ⟨rfl, rfl, rfl, z⟩ | ⟨z1, z⟩ | ⟨rfl, z1, z⟩ | ⟨rfl, rfl, z1, z2, z⟩ <;> (try rw [z] at HE) <;> clear z
  all_goals rcases zero_or a with rfl | za
  all_goals
    go_enter Tryd.func23, Tryd.ntmps23
    go_wp2_with (first
      | (go_at_call 40; refine (H1.out _).mono ?_; rintro e w1 ⟨rfl, hb1⟩; have hcur := below_go hcur (by simp) hb1; obtain ⟨k0, k1, k2, k3, k4, k5, k6⟩ := box6 hcur; clear hb1)
      | (go_at_call 39; refine (HR.out _ (box_below hcur)).mono ?_; rintro e w1 ⟨rfl, rfl⟩))
    all_goals
      go_ret
      refine ⟨ret_bool ?_, by first | exact box_below hcur | (repeat (first | exact Below.refl _ _ | assumption | refine Below.drew ?_ | refine below_drewN ?_ _ | refine Below.alloc ?_ (by first | omega | (simp; done) | (simp; omega)) _ | refine Below.setCell ?_ (by first | omega | (simp; done) | (simp; omega)) _))⟩
      have he := HE.out
      have hy := HY.out
      clear HE HY H1 HR
      (try rw [hy] at he)
      clear hy
      rw [he]
      clear he
      grind
set_option maxRecDepth 100000 in
set_option maxHeartbeats 2000000 in
theorem shaped_other (op k m a : Int) (x nm : ByteArray) (w : World) (hW : StrVar w 0 wordsS) (h0 : op ≠ 0) (h1 : op ≠ 1) (h20 : op ≠ 20) (h21 : op ≠ 21) : Calls Tryd.prog 23 #[ndV op k m x nm a] w fun e w' => e = .returned (.bool (shapedN op k m (bs x) (bs nm) a)) ∧ Below w.heap.size w w' := by
  have H1 := hide (fun W => expr_Arity_any op k m a x nm W)
  have hcur := Below.refl (w.heap.size + 1) (w.alloc (ndBox op k m x nm a))
  have b0 : (op == 0) = false := by simpa using h0
  have b1 : (op == 1) = false := by simpa using h1
  have b20 : (op == 20) = false := by simpa using h20
  have b21 : (op == 21) = false := by simpa using h21
  have c0 : (op != 0) = true := by simpa using h0
  have c21 : (op != 21) = true := by simpa using h21
  clear hW
  have HE := hide (shapedN_other h0 h1 h20 h21 k m a (bs x) (bs nm))
  have HZ := zero_cases k m x
  have HY := hide (bs_toList nm)
  generalize arityN op a = y at *
  clear h0 h1 h20 h21
  generalize shapedN op k m (bs x) (bs nm) a = r at *
  rcases HZ with ⟨rfl, rfl, rfl, z⟩ | ⟨z1, z⟩ | ⟨rfl, z1, z⟩ | ⟨rfl, rfl, z1, z2, z⟩ <;> (try rw [z] at HE) <;> clear z
  all_goals rcases zero_or a with rfl | za
  all_goals
    go_enter Tryd.func23, Tryd.ntmps23
    go_wp2_with (first
      | (go_at_call 11; refine (H1.out _).mono ?_; rintro e w1 ⟨rfl, hb1⟩; have hcur := below_go hcur (by simp) hb1; obtain ⟨k0, k1, k2, k3, k4, k5, k6⟩ := box6 hcur; clear hb1))
    all_goals
      go_ret
      refine ⟨ret_bool ?_, by first | exact box_below hcur | (repeat (first | exact Below.refl _ _ | assumption | refine Below.drew ?_ | refine below_drewN ?_ _ | refine Below.alloc ?_ (by first | omega | (simp; done) | (simp; omega)) _ | refine Below.setCell ?_ (by first | omega | (simp; done) | (simp; omega)) _))⟩
      have he := HE.out
      have hy := HY.out
      clear HE HY H1
      (try rw [hy] at he)
      clear hy
      rw [he]
      clear he
      grind
theorem zeroI (w : World) : (zeroValue 3).run Tryd.prog w = .ok (.int .i64 0) w := by kernel_rfl
/-- The look-up among the built-in names. -/
theorem bi_look {w : World} {B : Nat} (h : w.ownsMap Tryd.prog 9 (plainElem Tryd.prog 3) B 5 biD) (s : ByteArray) (hs : s.size ≤ maxLen) :
    ∃ c : Int, (Instr.lookup 65 (.map (some B)) (.string s) true).run Tryd.prog w = .ok (.tuple #[.int .i64 c, .bool (biB (bs s))]) w ∧ biD.atKey (.string (bs s)) (.lit (.int .i64 0)) = .lit (.int .i64 c) := by
  obtain ⟨v, ps, hrun, hv⟩ := h.look_ok lawStr Tryd.underlying65 (zeroI w) (plainElem_int Tryd.underlying3 (by decide)) (keyOf_string_mk Tryd.underlying9 hs)
  obtain ⟨c, rfl, hc, hwc⟩ := plainElem_int_inv Tryd.underlying3 hv
  have e : Maps.has biD (.string s.data.toList) = biB (bs s) := biD_has (bs s)
  rw [e] at hrun
  exact ⟨c, hrun, congrArg Prod.fst hc⟩
set_option maxRecDepth 100000 in
set_option maxHeartbeats 2000000 in
theorem shaped_21 (k m a : Int) (x nm : ByteArray) (w : World) (hW : StrVar w 0 wordsS) (hn : nm.size ≤ maxLen) : Calls Tryd.prog 23 #[ndV 21 k m x nm a] w fun e w' => e = .returned (.bool (shapedN 21 k m (bs x) (bs nm) a)) ∧ Below w.heap.size w w' := by
  have H1 := hide (fun W => schema_IsQualified_any nm W hn)
  have HR := hide (fun W (hb : Below w.heap.size w W) => token_Reserved_w nm W (hW.below hb))
  have hcur := Below.refl (w.heap.size + 1) (w.alloc (ndBox 21 k m x nm a))
  have HN := hide hn
  clear hW hn
  have HE := hide (shapedN_21 k m a (bs x) (bs nm))
  have HZ := zero_cases k m x
  have HB := hide (show biB (bs nm) = biB (bs nm) from rfl)
  generalize isQualB 24 (bs nm) = p at *
  generalize resB (bs nm) = q at *
  generalize shapedN 21 k m (bs x) (bs nm) a = r at *
  rcases HZ with ⟨rfl, rfl, rfl, z⟩ | ⟨z1, z⟩ | ⟨rfl, z1, z⟩ | ⟨rfl, rfl, z1, z2, z⟩ <;> (try rw [z] at HE) <;> clear z
  case inl =>
    go_enter Tryd.func23, Tryd.ntmps23
    go_wp2_with fail
    go_region_with (go_at_call 41; refine (builtin_any _).mono ?_; rintro e w1 ⟨⟨B, rfl, hown, hB1, hB2⟩, hb1⟩; have hcur := below_go (show Below (w.heap.size + 1) (w.alloc (ndBox 21 0 0 ⟨#[]⟩ nm a)) _ from by (repeat (first | exact Below.refl _ _ | assumption | refine Below.drew ?_ | refine below_drewN ?_ _ | refine Below.alloc ?_ (by first | omega | (simp; done) | (simp; omega)) _ | refine Below.setCell ?_ (by first | omega | (simp; done) | (simp; omega)) _))) (by simp) hb1; obtain ⟨k0, k1, k2, k3, k4, k5, k6⟩ := box6 hcur; obtain ⟨c, hrun, _⟩ := bi_look hown nm HN.out; clear hown hb1)
    all_goals
      generalize biB (bs nm) = b at *
      clear hB1 hB2
      go_wp2_with (first
        | (go_at_call 40; refine (H1.out _).mono ?_; rintro e w1 ⟨rfl, hb1⟩; have hcur := below_go hcur (by simp) hb1; obtain ⟨k0, k1, k2, k3, k4, k5, k6⟩ := box6 hcur; clear hb1)
        | (go_at_call 39; refine (HR.out _ (box_below hcur)).mono ?_; rintro e w1 ⟨rfl, rfl⟩))
      all_goals
        go_ret
        refine ⟨ret_bool ?_, by first | exact box_below hcur | (repeat (first | exact Below.refl _ _ | assumption | refine Below.drew ?_ | refine below_drewN ?_ _ | refine Below.alloc ?_ (by first | omega | (simp; done) | (simp; omega)) _ | refine Below.setCell ?_ (by first | omega | (simp; done) | (simp; omega)) _))⟩
        have he := HE.out
        clear HE H1 HR
        rw [he]
        clear he
        grind
  all_goals
    go_enter Tryd.func23, Tryd.ntmps23
    go_wp2
    go_ret
    refine ⟨ret_bool ?_, by (repeat (first | exact Below.refl _ _ | assumption | refine Below.drew ?_ | refine below_drewN ?_ _ | refine Below.alloc ?_ (by first | omega | (simp; done) | (simp; omega)) _ | refine Below.setCell ?_ (by first | omega | (simp; done) | (simp; omega)) _))⟩
    rw [HE.out]; rfl
theorem expr_shaped_any (op k m a : Int) (x nm : ByteArray) (w : World) (hW : StrVar w 0 wordsS) (hn : nm.size ≤ maxLen) : Calls Tryd.prog 23 #[ndV op k m x nm a] w fun e w' => e = .returned (.bool (shapedN op k m (bs x) (bs nm) a)) ∧ Below w.heap.size w w' := by
  by_cases h0 : op = 0
  · subst h0; exact shaped_0 k m a x nm w hW
  by_cases h1 : op = 1
  · subst h1; exact shaped_1 k m a x nm w hW
  by_cases h20 : op = 20
  · subst h20; exact shaped_20 k m a x nm w hW hn
  by_cases h21 : op = 21
  · subst h21; exact shaped_21 k m a x nm w hW hn
  exact shaped_other op k m a x nm w hW h0 h1 h20 h21
end Go.Proofs.YtlfedcbihbigoaaDoor
