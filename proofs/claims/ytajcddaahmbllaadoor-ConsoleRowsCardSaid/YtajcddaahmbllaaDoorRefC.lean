/- Contract of the reference's reader of a text literal. -/
import Derived.Test.YtajcddaahmbllaaDoorTokD
set_option linter.unusedVariables false
set_option linter.unusedSimpArgs false
namespace Go.Proofs.YtajcddaahmbllaaDoor
open Go.RowKit

def TextRes (r : Except Int (Tok × Nat)) (e : Ending) : Prop :=
  match r with
  | .ok x => e = .returned (.tuple #[str x.1.text, .int .i64 (x.2 : Nat), .int .i64 0])
  | .error c => c ≠ 0 ∧ e = .returned (.tuple #[str [], .int .i64 0, .int .i64 c])
theorem TextRes_err {r : Except Int (Tok × Nat)} {c : Int} (h : r = .error c) (hc : c ≠ 0) : TextRes r (.returned (.tuple #[str [], .int .i64 0, .int .i64 c])) := by subst h; exact ⟨hc, rfl⟩
theorem TextRes_ok {r : Except Int (Tok × Nat)} {t : Tok} {n : Nat} (h : r = .ok (t, n)) {m : Int} (hm : m = n) : TextRes r (.returned (.tuple #[str t.text, .int .i64 m, .int .i64 0])) := by subst h hm; rfl
theorem byteV_39 {c : UInt8} (h : c.toNat = 39) : byteV c = .int .u8 39 := by unfold byteV; rw [h]; rfl

set_option maxRecDepth 100000 in
set_option maxHeartbeats 2000000 in
theorem ref7_text_any (s : ByteArray) (w : World) (hs : s.size ≤ 140737488355328) (h0 : 0 < s.size) :
    Calls Tryd.prog 61 #[.string s] w fun e w' => TextRes (litS (bs s)) e ∧ Below w.heap.size w w' := by
  obtain ⟨i0, hi, hz0, hz1, hz2⟩ := info_parts Tryd.info_u8
  go_enter Tryd.func61, Tryd.ntmps61
  go_wp2
  go_loopw [5, 6] (fun v i wr => ∃ (k : Nat) (b : Bytes) (A : Option Addr) (c : Nat), v = .slice A b.length c ∧ i = .int .i64 k ∧ k ≤ s.size ∧ LitRel (bs s) k b ∧
      wr.ownsRow w.heap.size 5 1 (.slice A b.length c) b.length (b.map byteV) ∧ Below w.heap.size w wr)
    (fun _ i _ => s.size - (intOf i).toNat)
  case atStart => exact ⟨1, [], none, 0, rfl, rfl, by omega, LitRel_start _, own_nil _ _ _ _, Below.refl _ _⟩
  case round =>
    obtain ⟨k, b, A, c, rfl, rfl, hk, hrel, hown, hbel⟩ := hrel
    have hsz := hbel.size
    have hb1 : b.length + 1 ≤ k := hrel.2.1
    by_cases hlt : k < s.size
    · by_cases hc : s[k].toNat = 39
      · have hc' : ((s[k].toNat : Int) != 39) = false := by simp; omega
        by_cases hd : ∃ h : k + 1 < s.size, s[k+1].toNat = 39
        · obtain ⟨hd1, hd2⟩ := hd
          have hrel' := LitRel_pair hrel hd1 hc hd2
          have hd' : ((s[k+1].toNat : Int) == 39) = true := by simp; omega
          have he' : decide ((k : Int) + 1 < (s.size : Int)) = true := by simp; omega
          have HV := hide (byteV_39 hd2)
          clear hc hrel hd2
          go_wp2_with (at_builtin; refine wpList_append_own _ rfl _ _ 63 rfl w.heap.size 5 i0 (.int .u8 0) 1 1 Tryd.underlying63 hi hz0 hz1 hz2 rfl (by decide) _ _ _ rfl (hown.alloc _) ⟨wr.heap.size, 0, none⟩ 1 1 [.int .u8 39] rfl rfl (cell_one_new _ _ _) (by simp [Value.oneCell']) (by unfold maxLen; omega) (by omega) (by simp; omega) ?_; intro v' w1 hown' hgrow _)
          have hb2 := push_below hbel hown hgrow (by omega)
          obtain ⟨A', c', rfl⟩ := own_form hown'
          exact ⟨⟨k + 2, b ++ [s[k+1]], A', c', by simp, by go_num, by omega, hrel', by rw [List.map_append, List.map_cons, List.map_nil, HV.out]; simpa using hown', hb2⟩, by simp [intOf]; omega⟩
        · have hd' : ∀ h : k + 1 < s.size, s[k+1].toNat ≠ 39 := fun h e => hd ⟨h, e⟩
          have hr := LitRel_close hrel hlt hc hd'
          clear hc hrel
          have hx : decide ((k : Int) + 1 < (s.size : Int)) = false ∨ (decide ((k : Int) + 1 < (s.size : Int)) = true ∧ ∃ h : k + 1 < s.size, ((s[k+1].toNat : Int) == 39) = false) := by
            by_cases h : k + 1 < s.size
            · have := hd' h
              exact .inr ⟨by simp; omega, h, by simp; omega⟩
            · exact .inl (by simp; omega)
          clear hd hd'
          by_cases h64 : 64 < b.length
          · have H := hide (show litS (bs s) = .error 2 by rw [hr, if_pos h64])
            clear hr
            rcases hx with hx | ⟨hx, hx1, hx2⟩
            all_goals
              go_wp2
              go_ret3
              exact ⟨TextRes_err H.out (by decide), hbel⟩
          · have H := hide (show litS (bs s) = .ok (⟨3, b, 0, 0⟩, k + 1) by rw [hr, if_neg h64])
            clear hr
            have hcv := run_conv_own (P := Tryd.prog) (w := wr) (dst := 9) Tryd.underlying63 Tryd.underlying5 Tryd.underlying9 hown
            rcases hx with hx | ⟨hx, hx1, hx2⟩
            all_goals
              go_wp2
              go_ret3
              exact ⟨TextRes_ok H.out (by simp), hbel⟩
      · have hrel' := LitRel_plain hrel hlt hc
        have hc' : ((s[k].toNat : Int) != 39) = true := by simp; omega
        clear hc hrel
        go_wp2_with (at_builtin; refine wpList_append_own _ rfl _ _ 63 rfl w.heap.size 5 i0 (.int .u8 0) 1 1 Tryd.underlying63 hi hz0 hz1 hz2 rfl (by decide) _ _ _ rfl (hown.alloc _) ⟨wr.heap.size, 0, none⟩ 1 1 [byteV s[k]] rfl rfl (cell_one_new _ _ _) (by simp [Value.oneCell']) (by unfold maxLen; omega) (by omega) (by simp; omega) ?_; intro v' w1 hown' hgrow _)
        have hb2 := push_below hbel hown hgrow (by omega)
        obtain ⟨A', c', rfl⟩ := own_form hown'
        exact ⟨⟨k + 1, b ++ [s[k]], A', c', by simp, by go_num, by omega, hrel', by simpa using hown', hb2⟩, by simp [intOf]; omega⟩
    · have hr := LitRel_end hrel hlt
      have H := hide hr; clear hr hrel
      go_wp2
      go_ret3
      exact ⟨TextRes_err H.out (by decide), hbel⟩

end Go.Proofs.YtajcddaahmbllaaDoor
