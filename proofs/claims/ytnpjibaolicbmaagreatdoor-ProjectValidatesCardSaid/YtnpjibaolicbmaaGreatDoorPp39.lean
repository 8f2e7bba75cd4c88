/- Parts of the proof. -/
import Derived.Test.YtnpjibaolicbmaaGreatDoorPp37
set_option linter.unusedVariables false
set_option linter.unusedSimpArgs false
set_option maxHeartbeats 8000000
namespace Go.Proofs.YtnpjibaolicbmaaGreatDoor
open Go.Proofs.Tryz
open Go.RowKit
theorem k_y (d : Dfs) (f : a_3 → Bool) : d.names.any f = ((d.kindN 0).any f || ((d.kindN 1).any f || ((d.kindN 2).any f || (d.kindN 3).any f))) := by
 show (d.zones.map Zon.name ++ (d.srcN ++ (d.macs.map Mac.name ++ (d.mdlN ++ (d.snpN ++ d.chks.map Chk.name))))).any f = (([] ++ d.zones.map Zon.name).any f || (((([] ++ d.srcs.map Srx.name) ++ d.mdls.map Mdl.name) ++ d.snps.map Snp.name).any f || (([] ++ d.macs.map Mac.name).any f || ([] ++ d.chks.map Chk.name).any f)))
 unfold Dfs.srcN Dfs.mdlN Dfs.snpN
 simp only [List.nil_append, List.any_append]
 generalize (d.zones.map Zon.name).any f = a
 generalize (d.srcs.map Srx.name).any f = b
 generalize (d.macs.map Mac.name).any f = c
 generalize (d.mdls.map Mdl.name).any f = e
 generalize (d.snps.map Snp.name).any f = g
 generalize (d.chks.map Chk.name).any f = h
 cases a <;> cases b <;> cases c <;> cases e <;> cases g <;> cases h <;> rfl
theorem l_S (d : Dfs) (hf : d.few) (k : Int) : (d.kindN k).length ≤ 192 := by
 obtain ⟨h1, h2, h3, h4, h5, h6⟩ := hf
 unfold Dfs.kindN
 split
 ·simp only [List.nil_append, List.length_map]; omega
 ·split
  ·simp only [List.nil_append, List.length_append, List.length_map]; omega
  ·split <;> (simp only [List.nil_append, List.length_map]; omega)
set_option maxRecDepth 100000
theorem f_N (d : Dfs) (a : DAdr) (w : World) (hS : d.Sl w a) (hf : d.few) :
  Calls prog 35 #[.agg #[slV a.z d.zones.length, slV a.s d.srcs.length, slV a.m d.macs.length, slV a.d d.mdls.length, slV a.n d.snps.length, slV a.c d.chks.length]] w fun e w' => e = .returned (.bool (d.names.any fun s => !a_i 24 s)) ∧ Below w.heap.size w w' := by
 have HE := a_2 (k_y d (fun s => !a_i 24 s))
 have HL := a_2 (l_S d hf)
 have HN := a_2 (fun (k : Int) (h0 : 0 ≤ k) (h3 : k ≤ 3) W (hb : Below w.heap.size w W) => g_H d a k W (hS.below hb) hf h0 h3)
 generalize d.names.any (fun s => !a_i 24 s) = r at *
 generalize hKD : d.kindN = KD at *
 obtain ⟨zs, ss, ms, ds, ns, cs⟩ := d
 obtain ⟨⟨zsA, zsC⟩, ⟨ssA, ssC⟩, ⟨msA, msC⟩, ⟨dsA, dsC⟩, ⟨nsA, nsC⟩, ⟨csA, csC⟩⟩ := a
 simp only at *
 clear hS hf hKD
 refine n_k ?_; intro hx0
 go_enter func35, ntmps35
 go_wp2_with fail
 go_loopw [3] (fun i wr => ∃ k : Nat, k ≤ 4 ∧ i = .int .i64 k ∧ Hid (∀ j : Nat, j < k → (KD (j : Int)).any (fun s => !a_i 24 s) = false) ∧ Below (w.heap.size + 1) (w.alloc (.cells #[.slice zsA zs.length zsC, .slice ssA ss.length ssC, .slice msA ms.length msC, .slice dsA ds.length dsC, .slice nsA ns.length nsC, .slice csA cs.length csC] 34)) wr) (fun i _ => 4 - (intOf i).toNat)
 case atStart => exact ⟨0, o_, rfl, a_2 fun j hj => absurd hj (Nat.not_lt_zero _), hx0⟩
 case round =>
  clear hx0
  obtain ⟨k, hk, rfl, HZ, hx⟩ := hrel
  refine k_h ?_; intro b0 b1 b2 b3 b4 b5 hlw hr
  by_cases hlt : k < 4
  ·have HN1 := a_2 (HN.out (k : Int) o_ o_ wr hr)
   unfold c_o at HN1; have hll := HL.out (k : Int)
   have HT := a_2 (fun (h : (KD (k : Int)).any (fun s => !a_i 24 s) = true) => show r = true from by
    rw [HE.out]; have h4 : k = 0 ∨ k = 1 ∨ k = 2 ∨ k = 3 := by omega
    rcases h4 with rfl | rfl | rfl | rfl
    ·rw [show ((0 : Nat) : Int) = 0 from rfl] at h; rw [h]; simp
    ·rw [show ((1 : Nat) : Int) = 1 from rfl] at h; rw [h]; simp
    ·rw [show ((2 : Nat) : Int) = 2 from rfl] at h; rw [h]; simp
    ·rw [show ((3 : Nat) : Int) = 3 from rfl] at h; rw [h]; simp)
   have HF := a_2 (fun (h : (KD (k : Int)).any (fun s => !a_i 24 s) = false) (j : Nat) (hj : j < k + 1) => show (KD (j : Int)).any (fun s => !a_i 24 s) = false from by
    rcases Nat.lt_succ_iff_lt_or_eq.1 hj with h9 | rfl
    ·exact HZ.out j h9
    ·exact h)
   clear HE HN HL HZ; generalize KD (k : Int) = l at *
   go_wp2_with (go_at_call 91; refine (HN1.out).mono ?_; rintro e w1 ⟨⟨B, c, rfl, hown⟩, hb1⟩)
   have HT1 := a_2 (a_W hown); have hx1 := a_1 hx s_ hb1; have hr1 := a_9 hb1 hr; clear hown b0 b1 b2 b3 b4 b5
   go_loopw [5] (fun i wr => ∃ j : Nat, j ≤ l.length ∧ i = .int .i64 j ∧ Hid (∀ q (h : q < l.length), q < j → a_i 24 l[q] = true) ∧ Below w1.heap.size w1 wr) (fun i _ => l.length - (intOf i).toNat)
   case atStart => exact ⟨0, o_, rfl, a_2 fun q _ hq => absurd hq (Nat.not_lt_zero _), b_ _ _⟩
   case round =>
    obtain ⟨j, hj, rfl, HZ, hb2⟩ := hrel
    by_cases hjl : j < l.length
    ·rcases HT1.out.below hb2 with e | ⟨g, off, rfl, hg, hc⟩
     ·exact absurd hjl e_
     have d0 := hc j hjl; have HI := a_2 (fun W => show Calls prog 89 #[str l[j]] W (fun e w' => e = .returned (.bool (a_i 24 l[j])) ∧ W = w') from b_5 ⟨(l[j]).toArray⟩ W); have HY := a_2 (fun (h : a_i 24 l[j] = false) => HT.out (List.any_eq_true.2 ⟨l[j], List.getElem_mem _, by rw [h]; rfl⟩))
     have HN2 := a_2 (fun (h : a_i 24 l[j] = true) (q : Nat) (hq : q < l.length) (hqj : q < j + 1) => show a_i 24 l[q] = true from by
      rcases Nat.lt_succ_iff_lt_or_eq.1 hqj with h9 | rfl
      ·exact HZ.out q hq h9
      ·exact h)
     clear hc HZ HT HF; generalize a_i 24 l[j] = z at *; generalize l[j] = x at *
     cases z
     ·have HR := a_2 (HY.out rfl)
      clear HY HN2
      go_wp2_with (go_at_call 89; refine (HI.out _).mono ?_; rintro e w' ⟨rfl, rfl⟩)
      go_ret
      exact ⟨a_a HR.out.symm, a_9 hb2 hr1⟩
     ·have HR := a_2 (HN2.out rfl)
      clear HY HN2
      go_wp2_with (go_at_call 89; refine (HI.out _).mono ?_; rintro e w' ⟨rfl, rfl⟩)
      exact ⟨⟨j + 1, o_, t_, HR, hb2⟩, w_⟩
    ·obtain rfl : j = l.length := by omega
     have HR := a_2 (HF.out (by
      rw [Bool.eq_false_iff]; intro h; obtain ⟨x, hx, h9⟩ := List.any_eq_true.1 h; obtain ⟨q, hq, rfl⟩ := List.getElem_of_mem hx; rw [HZ.out q hq hq] at h9
      cases h9))
     clear HF HT HZ
     go_wp2_with fail
     exact ⟨⟨k + 1, o_, t_, HR, a_1 hx1 s_ hb2⟩, w_⟩
  ·obtain rfl : k = 4 := by omega
   have HR := a_2 (show r = false from by
    rw [HE.out]; have h0 := HZ.out 0 o_; have h1 := HZ.out 1 o_; have h2 := HZ.out 2 o_; have h3 := HZ.out 3 o_; rw [show ((0 : Nat) : Int) = 0 from rfl] at h0; rw [show ((1 : Nat) : Int) = 1 from rfl] at h1; rw [show ((2 : Nat) : Int) = 2 from rfl] at h2; rw [show ((3 : Nat) : Int) = 3 from rfl] at h3; rw [h0, h1, h2, h3]
    rfl)
   clear HE HZ HN HL
   go_wp2_with fail
   go_ret
   exact ⟨a_a HR.out.symm, hr⟩
def f_F (ns : List a_3) (x : a_3) (v : Int) : Prop := (v = -1 ∧ x ∉ ns) ∨ ∃ i : Nat, i < ns.length ∧ v = i ∧ ns[i]? = some x ∧ x ∉ ns.take i
set_option maxRecDepth 512
theorem l_s {ns : List a_3} {x : a_3} {v : Int} (h : f_F ns x v) : decide (v < 0) = decide (x ∉ ns) := by
 rcases h with ⟨rfl, h⟩ | ⟨i, hi, rfl, h, _⟩
 ·simp [h]
 ·have : x ∈ ns := List.mem_of_getElem? h
  simp [this]
theorem n_Z {ns : List a_3} {v : Int} {k : Nat} (hk : k < ns.length) (h : f_F ns ns[k] v) : (v != (k : Int)) = decide (ns[k] ∈ ns.take k) := by
 rcases h with ⟨rfl, h⟩ | ⟨i, hi, rfl, h, h2⟩
 ·exact absurd (List.getElem_mem hk) h
 ·by_cases hik : i = k
  ·subst hik
   simp [h2]
  ·have h3 : i < k := by
    apply Decidable.byContradiction; intro h4; apply h2; exact List.mem_take_iff_getElem.2 ⟨k, o_, rfl⟩
   have h5 : ns[k] ∈ ns.take k := List.mem_take_iff_getElem.2 ⟨i, o_, by rw [List.getElem?_eq_getElem hi] at h; exact Option.some.inj h⟩
   simp [h5]; omega
set_option maxRecDepth 100000
theorem g_Y (A : Option Addr) (ms : List Mdu) (c : Nat) (x : a_3) (w : World) (hM : c_b w A ms) (hl : ms.length ≤ 16) :
  Calls prog 33 #[.slice A ms.length c, str x] w fun e w' => (∃ v : Int, e = .returned (.int .i64 v) ∧ f_F (c_9 ms) x v ∧ -1 ≤ v ∧ v ≤ 16) ∧ Below w.heap.size w w' := by
 have HM := a_2 hM
 clear hM
 go_enter func33, ntmps33
 go_wp2_with fail
 go_loopw [5] (fun i wr => ∃ k : Nat, k ≤ ms.length ∧ i = .int .i64 k ∧ Hid (x ∉ (c_9 ms).take k) ∧ Below w.heap.size w wr) (fun i _ => ms.length - (intOf i).toNat)
 case atStart => exact ⟨0, o_, rfl, a_2 s_, b_ _ _⟩
 case round =>
  obtain ⟨k, hk, rfl, HZ, hr⟩ := hrel
  by_cases hlt : k < ms.length
  ·rcases HM.out.below f_g.kept hr with e | ⟨g, off, rfl, hg, hc⟩
   ·exact absurd hlt e_
   obtain ⟨vs, hC, hcs⟩ := hc k hlt; obtain ⟨u, a, hu, hd, rfl⟩ := hC; have e0 : wr.cell? ⟨g, off + k * 8, none⟩ = some (str ms[k].name) := by simpa using hcs 0 s_
   have hk2 : k < (c_9 ms).length := by unfold c_9; simpa using hlt
   have hnm : (c_9 ms)[k] = ms[k].name := by simp [c_9]
   have HY := a_2 (fun (h : ms[k].name = x) => show f_F (c_9 ms) x (k : Int) from .inr ⟨k, hk2, rfl, by rw [List.getElem?_eq_getElem hk2, hnm, h], HZ.out⟩)
   have HN := a_2 (fun (h : ms[k].name ≠ x) => show x ∉ (c_9 ms).take (k + 1) from by
    rw [List.take_succ_eq_append_getElem hk2, hnm]; intro h9
    rcases List.mem_append.1 h9 with h9 | h9
    ·exact HZ.out h9
    ·exact h (List.mem_singleton.1 h9).symm)
   clear hc hcs hu hd hnm hk2 HZ; generalize ms[k].name = y at *
   by_cases hy : y = x
   ·subst hy
    have HR := a_2 (HY.out rfl); clear HY HN
    go_wp2_with fail
    go_ret
    exact ⟨⟨_, rfl, HR.out, o_, o_⟩, hr⟩
   ·have hyb : (y == x) = false := beq_eq_false_iff_ne.2 hy
    have HR := a_2 (HN.out hy); clear HY HN hy
    go_wp2_with fail
    exact ⟨⟨k + 1, o_, t_, HR, hr⟩, w_⟩
  ·obtain rfl : k = ms.length := by omega
   have HR := a_2 (show f_F (c_9 ms) x (-1) from .inl ⟨rfl, by have h := HZ.out; rw [List.take_of_length_le (by unfold c_9; simp)] at h; exact h⟩)
   go_wp2_with fail
   go_ret
   exact ⟨⟨_, rfl, HR.out, o_, o_⟩, hr⟩
end Go.Proofs.YtnpjibaolicbmaaGreatDoor
