/- Contract of the splitter, the reference's. -/
import Derived.Test.YtajcddaahmbllaaDoorTokF
import Derived.Test.YtajcddaahmbllaaDoorRefD
import Derived.Test.YtajcddaahmbllaaDoorRefF
set_option linter.unusedVariables false
set_option linter.unusedSimpArgs false
namespace Go.Proofs.YtajcddaahmbllaaDoor
open Go.RowKit

set_option maxRecDepth 100000 in
set_option maxHeartbeats 4000000 in
theorem ref7_Split_any (s : ByteArray) (w : World) (hs : s.size ≤ maxLen) :
    Calls Tryd.prog 18 #[.string s] w fun e w' => SplitRes w w' (splitS (bs s)) e ∧ Below w.heap.size w w' := by
  have hsm := hs
  unfold maxLen at hs
  by_cases hbig : 65536 < s.size
  · have H := hide (show splitS (bs s) = .error (0, 2) by unfold splitS; rw [bs_length, if_pos hbig])
    go_enter Tryd.func18, Tryd.ntmps18
    go_wp2
    go_ret3
    refine ⟨?_, Below.refl _ _⟩
    rw [H.out]; exact rfl
  · have H := hide (show splitS (bs s) = splitGo (bs s).length (bs s) 0 by unfold splitS; rw [bs_length, if_neg hbig])
    obtain ⟨i0, hi, hz0, hz1, hz2⟩ := info_parts Tryd.info_tok
    go_enter Tryd.func18, Tryd.ntmps18
    go_wp2_with fail
    refine (ref7_skip_any s 0 _ hsm (Nat.zero_le _)).mono ?_
    rintro e w' ⟨⟨j0, rfl, HK, HT⟩, rfl⟩
    go_wp2
    go_loopw [2, 5] (fun v i wr => ∃ (k : Nat) (acc : List Tok) (A : Option Addr) (c : Nat), v = .slice A acc.length c ∧ i = .int .i64 k ∧ Hid (SplitRel (bs s) k acc) ∧ Hid (Settled s k) ∧
        wr.ownsRow w.heap.size 49 4 (.slice A acc.length c) acc.length (tokCells acc) ∧ Below w.heap.size w wr) (fun _ i _ => s.size - (intOf i).toNat)
    case atStart => exact ⟨j0, [], none, 0, rfl, rfl, HK.out.2.2 _ (SplitRel_start _), HT, own_nil _ _ _ _, Below.refl _ _⟩
    case round =>
      obtain ⟨k, acc, A, c, rfl, rfl, HR, HST, hown, hbel⟩ := hrel
      obtain ⟨hk, hacc⟩ := SplitRel_le HR.out
      have hsz := hbel.size
      by_cases hlt : k < s.size
      · obtain ⟨hb, h35⟩ := HST.out hlt
        cases ho : oneS ((bs s).drop k) with
        | error er =>
          have HE := hide (show splitS (bs s) = _ by rw [H.out, SplitRel_err HR.out hlt hb h35 ho])
          have HO := hide ho
          clear ho hb h35
          go_wp2_with fail
          refine (ref7_next_any (s.extract k s.size) _ (by simp; omega) (by simp; omega)).mono ?_
          rintro e w1 ⟨hres, hb1⟩
          rw [bs_from, HO.out] at hres
          obtain ⟨hc0, t, m, rfl⟩ := hres
          have hc1 : ((er : Int) != 0) = true := by simpa using hc0
          clear hc0
          have hsz1 := hb1.size
          have hb2 := below_then hbel hsz hb1
          go_wp2
          go_ret3
          refine ⟨?_, by (repeat (first | exact Below.refl _ _ | assumption | refine Below.drew ?_ | refine below_drewN ?_ _ | refine Below.alloc ?_ (by first | omega | (simp; done) | (simp; omega)) _ | refine Below.setCell ?_ (by first | omega | (simp; done) | (simp; omega)) _))⟩
          rw [HE.out]
          rfl
        | ok x =>
          obtain ⟨t, m⟩ := x
          obtain ⟨hr2, hp1, hp2⟩ := SplitRel_tok HR.out hlt hb h35 ho
          have HR2 := hide hr2
          have HO := hide ho
          clear ho hb h35 hr2
          go_wp2_with fail
          refine (ref7_next_any (s.extract k s.size) _ (by simp; omega) (by simp; omega)).mono ?_
          rintro e w1 ⟨hres, hb1⟩
          rw [bs_from, HO.out] at hres
          obtain rfl : e = .returned (.tuple #[t.agg, .int .i64 (m : Nat), .int .i64 0]) := hres
          have hsz1 := hb1.size
          have hb2 := below_then hbel hsz hb1
          have hown1 := own_below hown hb1
          go_wp2_with (at_builtin; refine wpList_append_own _ rfl _ _ 45 rfl w.heap.size 49 i0 _ 4 40 Tryd.underlying45 hi hz0 hz1 hz2 rfl (by decide) _ _ _ rfl ((hown1.alloc _).alloc _) ⟨w1.heap.size + 1, 0, none⟩ 1 1 [.int .i64 t.kind, str t.text, .int .i64 t.num, .int .i64 k] rfl rfl (by have h := cells_new4 (w1.alloc (.cells #[.int .i64 t.kind, str t.text, .int .i64 t.num, .int .i64 k] 49)) (.int .i64 t.kind) (str t.text) (.int .i64 t.num) (.int .i64 k) 49; simpa using h) (by simp [Value.oneCell']) (by unfold maxLen; omega) (by omega) (by simp; omega) ?_; intro v' w2 hown' hgrow _)
          have hb3 := ((hb2.alloc (by omega) _).alloc (by simp; omega) _).grown hgrow (by simp; omega) (fun k hk => (hown1.lt k hk).1)
          obtain ⟨A', c', hv⟩ := own_form hown'
          have HV := hide hv; clear hv
          rw [show ((k : Int) + (m : Int)) = ((k + m : Nat) : Int) from by simp]
          refine (ref7_skip_any s (k + m) _ hsm (by omega)).mono ?_
          rintro e w' ⟨⟨j, rfl, HK2, HT2⟩, rfl⟩
          go_wp2
          have hj := HK2.out.1
          have hj2 := HK2.out.2.1
          have hown2 := hown'
          rw [HV.out] at hown2
          exact ⟨⟨j, acc ++ [{ t with off := k }], A', c', by rw [HV.out]; simp, rfl, HK2.out.2.2 _ HR2.out, HT2, by simpa [Tok.cells] using hown2, hb3⟩, by simp [intOf]; omega⟩
      · obtain rfl : k = s.size := by omega
        have HE := hide (show splitS (bs s) = _ by rw [H.out, SplitRel_end HR.out])
        go_wp2_with (at_builtin; refine wpList_append_own _ rfl _ _ 45 rfl w.heap.size 49 i0 _ 4 40 Tryd.underlying45 hi hz0 hz1 hz2 rfl (by decide) _ _ _ rfl (hown.alloc _) ⟨wr.heap.size, 0, none⟩ 1 1 [.int .i64 0, .string ⟨#[]⟩, .int .i64 0, .int .i64 s.size] rfl rfl (cells_new4 _ _ _ _ _ _) (by simp [Value.oneCell']) (by unfold maxLen; omega) (by omega) (by simp; omega) ?_; intro v' w2 hown' hgrow _)
        have hb2 := push_below hbel hown hgrow (by omega)
        obtain ⟨A', c', hv⟩ := own_form hown'
        go_ret3
        refine ⟨?_, hb2⟩
        rw [HE.out]
        subst hv
        exact ⟨A', c', by simp, by simpa [Tok.cells] using hown'⟩

end Go.Proofs.YtajcddaahmbllaaDoor
