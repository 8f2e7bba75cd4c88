/- Contract of the reader of a text literal. -/
import Derived.Test.YtajcddaahmbllaaDoorTokB
import Derived.Test.YtajcddaahmbllaaDoorOwn
set_option linter.unusedVariables false
set_option linter.unusedSimpArgs false
namespace Go.Proofs.YtajcddaahmbllaaDoor
open Go.RowKit

theorem Tryd.info_u8 : (Tryd.prog.info? 5).map (fun i => (i.zero, i.size, i.bytes)) = some (some (.int .u8 0), 1, 1) := by kernel_rfl
theorem Tryd.info_tok : (Tryd.prog.info? 49).map (fun i => (i.zero, i.size, i.bytes)) = some (some (.agg #[.int .i64 0, .string ⟨#[]⟩, .int .i64 0, .int .i64 0]), 4, 40) := by kernel_rfl

set_option maxRecDepth 100000 in
set_option maxHeartbeats 2000000 in
theorem token_literal_any (s : ByteArray) (w : World) (hs : s.size ≤ 140737488355328) (h0 : 0 < s.size) :
    Calls Tryd.prog 55 #[.string s] w fun e w' => OneRes (litS (bs s)) e ∧ Below w.heap.size w w' := by
  obtain ⟨i0, hi, hz0, hz1, hz2⟩ := info_parts Tryd.info_u8
  go_enter Tryd.func55, Tryd.ntmps55
  go_wp2
  go_loopw [5, 6] (fun v i wr => ∃ (k : Nat) (b : Bytes) (A : Option Addr) (c : Nat), v = .slice A b.length c ∧ i = .int .i64 k ∧ k ≤ s.size ∧ LitRel (bs s) k b ∧
      wr.ownsRow (w.heap.size + 1) 5 1 (.slice A b.length c) b.length (b.map byteV) ∧ Below (w.heap.size + 1) (w.alloc (.cells #[.int .i64 0, .string ⟨#[]⟩, .int .i64 0, .int .i64 0] 49)) wr)
    (fun _ i _ => s.size - (intOf i).toNat)
  case atStart => exact ⟨1, [], none, 0, rfl, rfl, by omega, LitRel_start _, own_nil _ _ _ _, Below.refl _ _⟩
  case round =>
    obtain ⟨k, b, A, c, rfl, rfl, hk, hrel, hown, hbel⟩ := hrel
    have hheap := heap_of_below hbel (Nat.lt_succ_self _)
    have hc0 := cell_of_heap hheap 0
    have hc1 := cell_of_heap hheap 1
    have hc2 := cell_of_heap hheap 2
    have hc3 := cell_of_heap hheap 3
    have hf0 := free_of_heap hheap 0
    have hf1 := free_of_heap hheap 1
    have hf2 := free_of_heap hheap 2
    have hf3 := free_of_heap hheap 3
    have hwlt := lt_of_heap hheap
    clear hheap
    have hb0 : Below w.heap.size w wr := ((Below.refl _ _).alloc (Nat.le_refl _) _).trans (hbel.mono (Nat.le_succ _))
    have hb1 : b.length + 1 ≤ k := hrel.2.1
    by_cases hlt : k < s.size
    · by_cases hc : s[k].toNat = 39
      · have hc' : ((s[k].toNat : Int) == 39) = true := by simp; omega
        by_cases hd : ∃ h : k + 1 < s.size, s[k+1].toNat = 39
        · obtain ⟨hd1, hd2⟩ := hd
          have hrel' := LitRel_pair hrel hd1 hc hd2
          have hd' : ((s[k+1].toNat : Int) != 39) = false := by simp; omega
          have he' : ((k : Int) + 1 == (s.size : Int)) = false := by simp; omega
          clear hc hrel hd2
          go_wp2_with (at_builtin; refine wpList_append_own _ rfl _ _ 63 rfl (w.heap.size + 1) 5 i0 (.int .u8 0) 1 1 Tryd.underlying63 hi hz0 hz1 hz2 rfl (by decide) _ _ _ rfl (hown.alloc _) ⟨wr.heap.size, 0, none⟩ 1 1 [byteV s[k+1]] rfl rfl (cell_one_new _ _ _) (by simp [Value.oneCell']) (by unfold maxLen; omega) (by omega) (by simp; omega) ?_; intro v' w1 hown' hgrow _)
          have hb2 := push_below hbel hown hgrow (by omega)
          obtain ⟨A', c', rfl⟩ := own_form hown'
          exact ⟨⟨k + 2, b ++ [s[k+1]], A', c', by simp, by go_num, by omega, hrel', by simpa using hown', hb2⟩, by simp [intOf]; omega⟩
        · have hd' : ∀ h : k + 1 < s.size, s[k+1].toNat ≠ 39 := fun h e => hd ⟨h, e⟩
          have hr := LitRel_close hrel hlt hc hd'
          clear hc hrel
          have hx : ((k : Int) + 1 == (s.size : Int)) = true ∨ (((k : Int) + 1 == (s.size : Int)) = false ∧ ∃ h : k + 1 < s.size, ((s[k+1].toNat : Int) != 39) = true) := by
            by_cases h : k + 1 < s.size
            · have := hd' h
              exact .inr ⟨by simp; omega, h, by simp; omega⟩
            · exact .inl (by simp; omega)
          clear hd hd'
          by_cases h64 : 64 < b.length
          · have H := hide (show litS (bs s) = .error 2 by rw [hr, if_pos h64])
            clear hr
            rcases hx with hx | ⟨hx, hx1, hx2⟩
            all_goals
              go_wp2
              refine bodyPost_ret (v := .tuple #[.agg #[.int .i64 0, str [], .int .i64 0, .int .i64 0], .int .i64 0, .int .i64 2]) (by simp [results, Tryd.results55, go_sem, hc0, hc1, hc2, hc3]) rfl ⟨OneRes_err H.out (by decide) _ _ _ _ _, ?_⟩
              (repeat (first | exact Below.refl _ _ | assumption | refine Below.drew ?_ | refine below_drewN ?_ _ | refine Below.alloc ?_ (by first | omega | (simp; done) | (simp; omega)) _ | refine Below.setCell ?_ (by first | omega | (simp; done) | (simp; omega)) _))
          · have H := hide (show litS (bs s) = .ok (⟨3, b, 0, 0⟩, k + 1) by rw [hr, if_neg h64])
            clear hr
            have hcv := run_conv_own (P := Tryd.prog) (w := wr) (dst := 9) Tryd.underlying63 Tryd.underlying5 Tryd.underlying9 hown
            rcases hx with hx | ⟨hx, hx1, hx2⟩
            all_goals
              go_wp2
              refine bodyPost_ret (v := .tuple #[.agg #[.int .i64 3, str b, .int .i64 0, .int .i64 0], .int .i64 (k + 1), .int .i64 0]) (by simp [results, Tryd.results55, go_sem, hc0, hc1, hc2, hc3]) rfl ⟨OneRes_ok H.out rfl (by simp), ?_⟩
              (repeat (first | exact Below.refl _ _ | assumption | refine Below.drew ?_ | refine below_drewN ?_ _ | refine Below.alloc ?_ (by first | omega | (simp; done) | (simp; omega)) _ | refine Below.setCell ?_ (by first | omega | (simp; done) | (simp; omega)) _))
      · have hrel' := LitRel_plain hrel hlt hc
        have hc' : ((s[k].toNat : Int) == 39) = false := by simp; omega
        clear hc hrel
        go_wp2_with (at_builtin; refine wpList_append_own _ rfl _ _ 63 rfl (w.heap.size + 1) 5 i0 (.int .u8 0) 1 1 Tryd.underlying63 hi hz0 hz1 hz2 rfl (by decide) _ _ _ rfl (hown.alloc _) ⟨wr.heap.size, 0, none⟩ 1 1 [byteV s[k]] rfl rfl (cell_one_new _ _ _) (by simp [Value.oneCell']) (by unfold maxLen; omega) (by omega) (by simp; omega) ?_; intro v' w1 hown' hgrow _)
        have hb2 := push_below hbel hown hgrow (by omega)
        obtain ⟨A', c', rfl⟩ := own_form hown'
        exact ⟨⟨k + 1, b ++ [s[k]], A', c', by simp, by go_num, by omega, hrel', by simpa using hown', hb2⟩, by simp [intOf]; omega⟩
    · have hr := LitRel_end hrel hlt
      have H := hide hr; clear hr hrel
      go_wp2
      refine bodyPost_ret (v := .tuple #[.agg #[.int .i64 0, str [], .int .i64 0, .int .i64 0], .int .i64 0, .int .i64 3]) (by simp [results, Tryd.results55, go_sem, hc0, hc1, hc2, hc3]) rfl ⟨OneRes_err H.out (by decide) _ _ _ _ _, ?_⟩
      (repeat (first | exact Below.refl _ _ | assumption | refine Below.drew ?_ | refine below_drewN ?_ _ | refine Below.alloc ?_ (by first | omega | (simp; done) | (simp; omega)) _ | refine Below.setCell ?_ (by first | omega | (simp; done) | (simp; omega)) _))

end Go.Proofs.YtajcddaahmbllaaDoor
