/- Contracts: console.Literal, ref42.Literal. -/
import Derived.Test.YtajcddaahmbllaaDoorConA
set_option linter.unusedVariables false
set_option linter.unusedSimpArgs false
namespace Go.Proofs.YtajcddaahmbllaaDoor
open Go.RowKit
theorem itoa_all (n : Int) (w : World) (hG : GlobJ w) (h0 : -1073741824 ≤ n) (h1 : n ≤ 1073741824) :
    Calls Tryd.prog 22 #[.int .i64 n] w fun e w' => e = .returned (str (Lib.itoa n)) ∧ Below w.heap.size w w' := by
  refine (Tryd.strconv_Itoa n (by omega) (by omega) w hG.tab).mono fun e w' ⟨he, hb⟩ => ⟨he, ?_⟩
  obtain ⟨k, os, rfl⟩ := hb
  exact grow_below w k os
theorem box3g {W w1 : World} {B : Nat} {a b c : Value} {t : TypeId} (h : Below (B + 1) W w1) (h0 : W.heap[B]? = some (.cells #[a, b, c] t)) :
    (w1.cell? ⟨B, 0, none⟩ = some a ∧ w1.cell? ⟨B, 1, none⟩ = some b ∧ w1.cell? ⟨B, 2, none⟩ = some c) := by
  have : w1.heap[B]? = some (.cells #[a, b, c] t) := by rw [h.block B (by omega)]; exact h0
  exact ⟨by rw [cell_of_heap this]; rfl, by rw [cell_of_heap this]; rfl, by rw [cell_of_heap this]; rfl⟩
theorem civil_Fmt_any (n : Int) (w : World) (hG : GlobJ w) (h0 : 0 ≤ n) (h1 : n ≤ 575999999) : Calls Tryd.prog 24 #[.int .i64 n] w fun e w' => e = .returned (.tuple #[str (fmtS n), .int .i64 0]) ∧ Below w.heap.size w w' := civil_Format_any n w hG.glob.lens h0 h1
theorem ref3_Fmt_any (n : Int) (w : World) (hG : GlobJ w) (h0 : 0 ≤ n) (h1 : n ≤ 575999999) : Calls Tryd.prog 26 #[.int .i64 n] w fun e w' => e = .returned (.tuple #[str (fmtS n), .int .i64 0]) ∧ Below w.heap.size w w' := ref3_Format_any n w h0 h1
set_option maxRecDepth 100000 in
set_option maxHeartbeats 4000000 in
theorem con_Literal_any (k n : Int) (s : ByteArray) (w : World) (hG : GlobJ w) (hs : s.size ≤ 100000) : Calls Tryd.prog 8 #[.agg #[.int .i64 k, .int .i64 n, .string s]] w fun e w' => e = .returned (str (litV k n (bs s))) ∧ Below w.heap.size w w' := by
  have HG := hide hG; clear hG
  have HV := hide (fun W => value_Valid_any k n s W)
  cases hv : validV k n (bs s)
  case false =>
    have HE := hide (show litV k n (bs s) = [] by unfold litV; rw [if_pos hv])
    rw [hv] at HV
    clear hv
    go_enter Tryd.func8, Tryd.ntmps8
    go_wp2_with fail
    refine (HV.out _).mono ?_
    rintro e w1 ⟨rfl, hb1⟩
    go_wp2
    go_ret
    exact ⟨by rw [HE.out]; rfl, Below.trans (by (repeat (first | exact Below.refl _ _ | assumption | refine Below.drew ?_ | refine below_drewN ?_ _ | refine Below.alloc ?_ (by first | omega | (simp; done) | (simp; omega)) _ | refine Below.setCell ?_ (by first | omega | (simp; done) | (simp; omega)) _))) (hb1.mono (by simp))⟩
  have hne : ¬ validV k n (bs s) = false := by rw [hv]; simp
  have hc := validV_cases hv
  rw [hv] at HV
  rcases hc with ⟨rfl, rfl, _⟩ | ⟨rfl, h01, _⟩ | ⟨rfl, h1, h2, _⟩ | ⟨rfl, rfl, h64⟩ | ⟨rfl, h1, h2, _⟩
  · have HE := hide (show litV 0 0 (bs s) = [110, 117, 108, 108] by unfold litV; rw [if_neg hne]; rfl)
    clear hv hne
    go_enter Tryd.func8, Tryd.ntmps8
    go_wp2_with fail
    refine (HV.out _).mono ?_
    rintro e w1 ⟨rfl, hb1⟩
    obtain ⟨k0, k1, k2⟩ := box3g (B := w.heap.size) (by simpa using hb1) (heap_alloc_new w _)
    go_wp2
    go_ret
    exact ⟨by rw [HE.out]; rfl, Below.trans (by (repeat (first | exact Below.refl _ _ | assumption | refine Below.drew ?_ | refine below_drewN ?_ _ | refine Below.alloc ?_ (by first | omega | (simp; done) | (simp; omega)) _ | refine Below.setCell ?_ (by first | omega | (simp; done) | (simp; omega)) _))) (hb1.mono (by simp))⟩
  · have ix0 : ∀ w, (Instr.index 60 (.agg #[str [102, 97, 108, 115, 101], str [116, 114, 117, 101]]) (.int .i64 0)).run Tryd.prog w = .ok (str [102, 97, 108, 115, 101]) w := fun _ => by kernel_rfl
    have ix1 : ∀ w, (Instr.index 60 (.agg #[str [102, 97, 108, 115, 101], str [116, 114, 117, 101]]) (.int .i64 1)).run Tryd.prog w = .ok (str [116, 114, 117, 101]) w := fun _ => by kernel_rfl
    rcases h01 with rfl | rfl
    · have HE := hide (show litV 1 0 (bs s) = [102, 97, 108, 115, 101] by unfold litV; rw [if_neg hne]; rfl)
      clear hv hne
      go_enter Tryd.func8, Tryd.ntmps8
      go_wp2_with fail
      refine (HV.out _).mono ?_
      rintro e w1 ⟨rfl, hb1⟩
      obtain ⟨k0, k1, k2⟩ := box3g (B := w.heap.size) (by simpa using hb1) (heap_alloc_new w _)
      go_wp2_with (go_at_call 21; refine (Tryd.strconv_FormatBool _ _).mono ?_; rintro e w' ⟨rfl, rfl⟩)
      go_ret
      exact ⟨by rw [HE.out]; rfl, Below.trans (by (repeat (first | exact Below.refl _ _ | assumption | refine Below.drew ?_ | refine below_drewN ?_ _ | refine Below.alloc ?_ (by first | omega | (simp; done) | (simp; omega)) _ | refine Below.setCell ?_ (by first | omega | (simp; done) | (simp; omega)) _))) (hb1.mono (by simp))⟩
    · have HE := hide (show litV 1 1 (bs s) = [116, 114, 117, 101] by unfold litV; rw [if_neg hne]; rfl)
      clear hv hne
      go_enter Tryd.func8, Tryd.ntmps8
      go_wp2_with fail
      refine (HV.out _).mono ?_
      rintro e w1 ⟨rfl, hb1⟩
      obtain ⟨k0, k1, k2⟩ := box3g (B := w.heap.size) (by simpa using hb1) (heap_alloc_new w _)
      go_wp2_with (go_at_call 21; refine (Tryd.strconv_FormatBool _ _).mono ?_; rintro e w' ⟨rfl, rfl⟩)
      go_ret
      exact ⟨by rw [HE.out]; rfl, Below.trans (by (repeat (first | exact Below.refl _ _ | assumption | refine Below.drew ?_ | refine below_drewN ?_ _ | refine Below.alloc ?_ (by first | omega | (simp; done) | (simp; omega)) _ | refine Below.setCell ?_ (by first | omega | (simp; done) | (simp; omega)) _))) (hb1.mono (by simp))⟩
  · have HE := hide (show litV 2 n (bs s) = Lib.itoa n by unfold litV; rw [if_neg hne]; rfl)
    clear hv hne
    have HI := hide (fun W (hW : GlobJ W) => itoa_all n W hW h1 h2)
    generalize Lib.itoa n = z at *
    go_enter Tryd.func8, Tryd.ntmps8
    go_wp2_with fail
    refine (HV.out _).mono ?_
    rintro e w1 ⟨rfl, hb1⟩
    obtain ⟨k0, k1, k2⟩ := box3g (B := w.heap.size) (by simpa using hb1) (heap_alloc_new w _)
    have hb2 : Below w.heap.size w w1 := Below.trans (by (repeat (first | exact Below.refl _ _ | assumption | refine Below.drew ?_ | refine below_drewN ?_ _ | refine Below.alloc ?_ (by first | omega | (simp; done) | (simp; omega)) _ | refine Below.setCell ?_ (by first | omega | (simp; done) | (simp; omega)) _))) (hb1.mono (by simp))
    go_wp2_with fail
    refine (HI.out _ (HG.out.below hb2)).mono ?_
    rintro e w2 ⟨rfl, hb3⟩
    go_wp2
    go_ret
    exact ⟨by rw [HE.out]; rfl, below_st hb3 hb2⟩
  · have HE := hide (show litV 3 0 (bs s) = [39] ++ (bs s).flatMap qByte ++ [39] by unfold litV; rw [if_neg hne]; rfl)
    clear hv hne
    have HR := hide (fun W (hW : GlobJ W) => replaceAll_any s W hW hs)
    have hzl := quote_len (bs s)
    generalize (bs s).flatMap qByte = z at *
    have hzl2 : z.length ≤ 200 := by omega
    clear hzl h64
    go_enter Tryd.func8, Tryd.ntmps8
    go_wp2_with fail
    refine (HV.out _).mono ?_
    rintro e w1 ⟨rfl, hb1⟩
    obtain ⟨k0, k1, k2⟩ := box3g (B := w.heap.size) (by simpa using hb1) (heap_alloc_new w _)
    have hb2 : Below w.heap.size w w1 := Below.trans (by (repeat (first | exact Below.refl _ _ | assumption | refine Below.drew ?_ | refine below_drewN ?_ _ | refine Below.alloc ?_ (by first | omega | (simp; done) | (simp; omega)) _ | refine Below.setCell ?_ (by first | omega | (simp; done) | (simp; omega)) _))) (hb1.mono (by simp))
    go_wp2_with fail
    refine (HR.out _ (HG.out.below hb2)).mono ?_
    rintro e w2 ⟨rfl, hb3⟩
    go_wp2
    go_ret
    exact ⟨by rw [HE.out]; simp [ba_append], below_st hb3 hb2⟩
  · have HE := hide (show litV 4 n (bs s) = 64 :: fmtS n by unfold litV; rw [if_neg hne]; rfl)
    clear hv hne
    have HR := hide (fun W (hW : GlobJ W) => civil_Fmt_any n W hW h1 h2)
    have hzl := fmtS_len h1 h2
    generalize fmtS n = z at *
    have hzl2 : z.length ≤ 200 := by omega
    clear hzl
    go_enter Tryd.func8, Tryd.ntmps8
    go_wp2_with fail
    refine (HV.out _).mono ?_
    rintro e w1 ⟨rfl, hb1⟩
    obtain ⟨k0, k1, k2⟩ := box3g (B := w.heap.size) (by simpa using hb1) (heap_alloc_new w _)
    have hb2 : Below w.heap.size w w1 := Below.trans (by (repeat (first | exact Below.refl _ _ | assumption | refine Below.drew ?_ | refine below_drewN ?_ _ | refine Below.alloc ?_ (by first | omega | (simp; done) | (simp; omega)) _ | refine Below.setCell ?_ (by first | omega | (simp; done) | (simp; omega)) _))) (hb1.mono (by simp))
    go_wp2_with fail
    refine (HR.out _ (HG.out.below hb2)).mono ?_
    rintro e w2 ⟨rfl, hb3⟩
    go_wp2
    go_ret
    exact ⟨by rw [HE.out]; simp [ba_append], below_st hb3 hb2⟩
set_option maxRecDepth 100000 in
set_option maxHeartbeats 4000000 in
theorem r42_Literal_any (k n : Int) (s : ByteArray) (w : World) (hG : GlobJ w) (hs : s.size ≤ 100000) : Calls Tryd.prog 9 #[.agg #[.int .i64 k, .int .i64 n, .string s]] w fun e w' => e = .returned (str (litV k n (bs s))) ∧ Below w.heap.size w w' := by
  have HG := hide hG; clear hG
  have HV := hide (fun W => ref1_Valid_any k n s W)
  cases hv : validV k n (bs s)
  case false =>
    have HE := hide (show litV k n (bs s) = [] by unfold litV; rw [if_pos hv])
    rw [hv] at HV
    clear hv
    go_enter Tryd.func9, Tryd.ntmps9
    go_wp2_with fail
    refine (HV.out _).mono ?_
    rintro e w1 ⟨rfl, hb1⟩
    go_wp2
    go_ret
    exact ⟨by rw [HE.out]; rfl, Below.trans (by (repeat (first | exact Below.refl _ _ | assumption | refine Below.drew ?_ | refine below_drewN ?_ _ | refine Below.alloc ?_ (by first | omega | (simp; done) | (simp; omega)) _ | refine Below.setCell ?_ (by first | omega | (simp; done) | (simp; omega)) _))) (hb1.mono (by simp))⟩
  have hne : ¬ validV k n (bs s) = false := by rw [hv]; simp
  have hc := validV_cases hv
  rw [hv] at HV
  rcases hc with ⟨rfl, rfl, _⟩ | ⟨rfl, h01, _⟩ | ⟨rfl, h1, h2, _⟩ | ⟨rfl, rfl, h64⟩ | ⟨rfl, h1, h2, _⟩
  · have HE := hide (show litV 0 0 (bs s) = [110, 117, 108, 108] by unfold litV; rw [if_neg hne]; rfl)
    clear hv hne
    go_enter Tryd.func9, Tryd.ntmps9
    go_wp2_with fail
    refine (HV.out _).mono ?_
    rintro e w1 ⟨rfl, hb1⟩
    obtain ⟨k0, k1, k2⟩ := box3g (B := w.heap.size) (by simpa using hb1) (heap_alloc_new w _)
    go_wp2
    go_ret
    exact ⟨by rw [HE.out]; rfl, Below.trans (by (repeat (first | exact Below.refl _ _ | assumption | refine Below.drew ?_ | refine below_drewN ?_ _ | refine Below.alloc ?_ (by first | omega | (simp; done) | (simp; omega)) _ | refine Below.setCell ?_ (by first | omega | (simp; done) | (simp; omega)) _))) (hb1.mono (by simp))⟩
  · have ix0 : ∀ w, (Instr.index 60 (.agg #[str [102, 97, 108, 115, 101], str [116, 114, 117, 101]]) (.int .i64 0)).run Tryd.prog w = .ok (str [102, 97, 108, 115, 101]) w := fun _ => by kernel_rfl
    have ix1 : ∀ w, (Instr.index 60 (.agg #[str [102, 97, 108, 115, 101], str [116, 114, 117, 101]]) (.int .i64 1)).run Tryd.prog w = .ok (str [116, 114, 117, 101]) w := fun _ => by kernel_rfl
    rcases h01 with rfl | rfl
    · have HE := hide (show litV 1 0 (bs s) = [102, 97, 108, 115, 101] by unfold litV; rw [if_neg hne]; rfl)
      clear hv hne
      go_enter Tryd.func9, Tryd.ntmps9
      go_wp2_with fail
      refine (HV.out _).mono ?_
      rintro e w1 ⟨rfl, hb1⟩
      obtain ⟨k0, k1, k2⟩ := box3g (B := w.heap.size) (by simpa using hb1) (heap_alloc_new w _)
      go_wp2_with (go_at_call 21; refine (Tryd.strconv_FormatBool _ _).mono ?_; rintro e w' ⟨rfl, rfl⟩)
      go_ret
      exact ⟨by rw [HE.out]; rfl, Below.trans (by (repeat (first | exact Below.refl _ _ | assumption | refine Below.drew ?_ | refine below_drewN ?_ _ | refine Below.alloc ?_ (by first | omega | (simp; done) | (simp; omega)) _ | refine Below.setCell ?_ (by first | omega | (simp; done) | (simp; omega)) _))) (hb1.mono (by simp))⟩
    · have HE := hide (show litV 1 1 (bs s) = [116, 114, 117, 101] by unfold litV; rw [if_neg hne]; rfl)
      clear hv hne
      go_enter Tryd.func9, Tryd.ntmps9
      go_wp2_with fail
      refine (HV.out _).mono ?_
      rintro e w1 ⟨rfl, hb1⟩
      obtain ⟨k0, k1, k2⟩ := box3g (B := w.heap.size) (by simpa using hb1) (heap_alloc_new w _)
      go_wp2_with (go_at_call 21; refine (Tryd.strconv_FormatBool _ _).mono ?_; rintro e w' ⟨rfl, rfl⟩)
      go_ret
      exact ⟨by rw [HE.out]; rfl, Below.trans (by (repeat (first | exact Below.refl _ _ | assumption | refine Below.drew ?_ | refine below_drewN ?_ _ | refine Below.alloc ?_ (by first | omega | (simp; done) | (simp; omega)) _ | refine Below.setCell ?_ (by first | omega | (simp; done) | (simp; omega)) _))) (hb1.mono (by simp))⟩
  · have HE := hide (show litV 2 n (bs s) = Lib.itoa n by unfold litV; rw [if_neg hne]; rfl)
    clear hv hne
    have HI := hide (fun W (hW : GlobJ W) => itoa_all n W hW h1 h2)
    generalize Lib.itoa n = z at *
    go_enter Tryd.func9, Tryd.ntmps9
    go_wp2_with fail
    refine (HV.out _).mono ?_
    rintro e w1 ⟨rfl, hb1⟩
    obtain ⟨k0, k1, k2⟩ := box3g (B := w.heap.size) (by simpa using hb1) (heap_alloc_new w _)
    have hb2 : Below w.heap.size w w1 := Below.trans (by (repeat (first | exact Below.refl _ _ | assumption | refine Below.drew ?_ | refine below_drewN ?_ _ | refine Below.alloc ?_ (by first | omega | (simp; done) | (simp; omega)) _ | refine Below.setCell ?_ (by first | omega | (simp; done) | (simp; omega)) _))) (hb1.mono (by simp))
    go_wp2_with fail
    refine (HI.out _ (HG.out.below hb2)).mono ?_
    rintro e w2 ⟨rfl, hb3⟩
    go_wp2
    go_ret
    exact ⟨by rw [HE.out]; rfl, below_st hb3 hb2⟩
  · have HE := hide (show litV 3 0 (bs s) = [39] ++ (bs s).flatMap qByte ++ [39] by unfold litV; rw [if_neg hne]; rfl)
    clear hv hne
    have HR := hide (fun W (hW : GlobJ W) => replaceAll_any s W hW hs)
    have hzl := quote_len (bs s)
    generalize (bs s).flatMap qByte = z at *
    have hzl2 : z.length ≤ 200 := by omega
    clear hzl h64
    go_enter Tryd.func9, Tryd.ntmps9
    go_wp2_with fail
    refine (HV.out _).mono ?_
    rintro e w1 ⟨rfl, hb1⟩
    obtain ⟨k0, k1, k2⟩ := box3g (B := w.heap.size) (by simpa using hb1) (heap_alloc_new w _)
    have hb2 : Below w.heap.size w w1 := Below.trans (by (repeat (first | exact Below.refl _ _ | assumption | refine Below.drew ?_ | refine below_drewN ?_ _ | refine Below.alloc ?_ (by first | omega | (simp; done) | (simp; omega)) _ | refine Below.setCell ?_ (by first | omega | (simp; done) | (simp; omega)) _))) (hb1.mono (by simp))
    go_wp2_with fail
    refine (HR.out _ (HG.out.below hb2)).mono ?_
    rintro e w2 ⟨rfl, hb3⟩
    go_wp2
    go_ret
    exact ⟨by rw [HE.out]; simp [ba_append], below_st hb3 hb2⟩
  · have HE := hide (show litV 4 n (bs s) = 64 :: fmtS n by unfold litV; rw [if_neg hne]; rfl)
    clear hv hne
    have HR := hide (fun W (hW : GlobJ W) => ref3_Fmt_any n W hW h1 h2)
    have hzl := fmtS_len h1 h2
    generalize fmtS n = z at *
    have hzl2 : z.length ≤ 200 := by omega
    clear hzl
    go_enter Tryd.func9, Tryd.ntmps9
    go_wp2_with fail
    refine (HV.out _).mono ?_
    rintro e w1 ⟨rfl, hb1⟩
    obtain ⟨k0, k1, k2⟩ := box3g (B := w.heap.size) (by simpa using hb1) (heap_alloc_new w _)
    have hb2 : Below w.heap.size w w1 := Below.trans (by (repeat (first | exact Below.refl _ _ | assumption | refine Below.drew ?_ | refine below_drewN ?_ _ | refine Below.alloc ?_ (by first | omega | (simp; done) | (simp; omega)) _ | refine Below.setCell ?_ (by first | omega | (simp; done) | (simp; omega)) _))) (hb1.mono (by simp))
    go_wp2_with fail
    refine (HR.out _ (HG.out.below hb2)).mono ?_
    rintro e w2 ⟨rfl, hb3⟩
    go_wp2
    go_ret
    exact ⟨by rw [HE.out]; simp [ba_append], below_st hb3 hb2⟩
end Go.Proofs.YtajcddaahmbllaaDoor
