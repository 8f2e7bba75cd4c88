/- Parts of the proof. -/
import Derived.Test.YtnpjibaolicbmaaGreatDoorPp36
import Derived.Test.YtnpjibaolicbmaaGreatDoorPp32
set_option linter.unusedVariables false
set_option linter.unusedSimpArgs false
set_option maxHeartbeats 8000000
namespace Go.Proofs.YtnpjibaolicbmaaGreatDoor
open Go.Proofs.Tryz
open Go.RowKit
abbrev g_K (w : World) (b : Nat) (d : Dfs) (a : DAdr) : Prop := w.heap[b]? = some (.cells #[slV a.z d.zones.length, slV a.s d.srcs.length, slV a.m d.macs.length, slV a.d d.mdls.length, slV a.n d.snps.length, slV a.c d.chks.length] 34)
abbrev evV : Value := .func (.func 36) #[] #[]
theorem q_Z (B E : Nat) (d : Dfs) (a : DAdr) (w0 W : World) (hB : g_K W B d a) (hE : W.heap[E]? = some (.cells #[evV] 85)) (hb : Below w0.heap.size w0 W) (hV : PjV w0) (h : d.Sl w0 a) (o : d.ok) :
  Calls prog 37 #[a_f B, a_f E] W fun e w' => e = .returned (.int .i64 (a_A [] (d.zones.map Zon.name) a_n (a_X d.zones f_T))) ∧ Below W.heap.size W w' := by
 have c0 : W.cell? ⟨B, 0, none⟩ = some (slV a.z d.zones.length) := a_0 hB 0
 have e0 : W.cell? ⟨E, 0, none⟩ = some evV := a_0 hE 0
 have hW1 : Below W.heap.size W (W.alloc (.map #[] 0)) := zX
 have HX := a_2 (o_c a.z.1 d.zones a.z.2 W.heap.size 0 [] w0 (W.alloc (.map #[] 0)) (b_d.made W) o_ (a_9 hW1 hb) hb.size hV h.hz o.lz o.zone)
 have c1 : (W.alloc (.map #[] 0)).cell? ⟨B, 0, none⟩ = some (slV a.z d.zones.length) := (hW1.cell (p := ⟨B, 0, none⟩) (a_6 hB)).trans c0
 have e1 : (W.alloc (.map #[] 0)).cell? ⟨E, 0, none⟩ = some evV := (hW1.cell (p := ⟨E, 0, none⟩) (a_6 hE)).trans e0
 clear hV h o hb hB hE
 generalize a_A [] (d.zones.map Zon.name) a_n (a_X d.zones f_T) = v at *
 generalize d.zones.length = ln at *
 have hmm := @run_makeMap prog
 go_enter func37, ntmps37
 go_wp2_with (go_at_call 38; refine (HX.out).mono ?_; rintro e w1 ⟨rfl, hg1, _⟩)
 exact q_J
theorem q_N (B M E b n : Nat) (before : List a_3) (d : Dfs) (a : DAdr) (w0 W : World) (hB : g_K W B d a) (hE : W.heap[E]? = some (.cells #[evV] 85)) (hM : W.heap[M]? = some (.cells #[.map (some b)] 88)) (hS : b_d W b n before) (hn : n ≤ 1000) (hbb : w0.heap.size ≤ b) (hb : Below w0.heap.size w0 W) (hV : PjV w0) (h : d.Sl w0 a) (o : d.ok) :
  Calls prog 41 #[a_f B, a_f M, a_f E] W fun e w' => e = .returned (.int .i64 (a_A before (d.srcs.map Srx.name) a_n (a_X d.srcs c_U))) ∧ W.grownBy w' (some b) ∧ (a_A before (d.srcs.map Srx.name) a_n (a_X d.srcs c_U) = 0 → b_d w' b (n + d.srcs.length) (before ++ d.srcs.map Srx.name)) := by
 have c0 : W.cell? ⟨B, 1, none⟩ = some (slV a.s d.srcs.length) := a_0 hB 1
 refine r_o ?_; intro e0 m0
 have HX := a_2 (n_Q a.s.1 d.srcs a.s.2 b n before w0 W hS hn hb hbb hV h.hs o.ls o.src)
 clear hV h o hb hB hE hM hS hbb
 generalize a_A before (d.srcs.map Srx.name) a_n (a_X d.srcs c_U) = v at *
 generalize before ++ d.srcs.map Srx.name = nn at *
 generalize d.srcs.length = ln at *
 go_enter func41, ntmps41
 go_wp2_with (go_at_call 42; refine (HX.out).mono ?_; rintro e w1 ⟨rfl, hg1, hs1⟩)
 go_ret
 exact ⟨rfl, hg1, hs1⟩
theorem r_1 (B : Nat) (d : Dfs) (a : DAdr) (w0 W : World) (hB : g_K W B d a) (hb : Below w0.heap.size w0 W) (hV : PjV w0) (h : d.Sl w0 a) (o : d.ok) :
  Calls prog 45 #[a_f B] W fun e w' => e = .returned (.int .i64 (a_A [] (d.macs.map Mac.name) (fun s => !biB s) (a_X d.macs e_i))) ∧ Below W.heap.size W w' := by
 have c0 : W.cell? ⟨B, 2, none⟩ = some (slV a.m d.macs.length) := a_0 hB 2
 have hW1 : Below W.heap.size W (W.alloc (.map #[] 0)) := zX
 have HX := a_2 (n_v a.m.1 d.macs a.m.2 W.heap.size 0 [] w0 (W.alloc (.map #[] 0)) (b_d.made W) o_ (a_9 hW1 hb) hb.size hV h.hm o.lm o.mac)
 have c1 : (W.alloc (.map #[] 0)).cell? ⟨B, 2, none⟩ = some (slV a.m d.macs.length) := (hW1.cell (p := ⟨B, 2, none⟩) (a_6 hB)).trans c0
 clear hV h o hb hB
 generalize a_A [] (d.macs.map Mac.name) (fun s => !biB s) (a_X d.macs e_i) = v at *
 generalize d.macs.length = ln at *
 have hmm := @run_makeMap prog
 go_enter func45, ntmps45
 go_wp2_with (go_at_call 46; refine (HX.out).mono ?_; rintro e w1 ⟨rfl, hg1, _⟩)
 exact q_J
theorem r_5 (B M E b n : Nat) (before : List a_3) (d : Dfs) (a : DAdr) (w0 W : World) (hB : g_K W B d a) (hE : W.heap[E]? = some (.cells #[evV] 85)) (hM : W.heap[M]? = some (.cells #[.map (some b)] 88)) (hS : b_d W b n before) (hn : n ≤ 1000) (hbb : w0.heap.size ≤ b) (hb : Below w0.heap.size w0 W) (hV : PjV w0) (h : d.Sl w0 a) (o : d.ok) :
  Calls prog 51 #[a_f B, a_f M, a_f E] W fun e w' => e = .returned (.int .i64 (a_A before (d.mdls.map Mdl.name) a_n (a_X d.mdls e_m))) ∧ W.grownBy w' (some b) ∧ (a_A before (d.mdls.map Mdl.name) a_n (a_X d.mdls e_m) = 0 → b_d w' b (n + d.mdls.length) (before ++ d.mdls.map Mdl.name)) := by
 have c0 : W.cell? ⟨B, 3, none⟩ = some (slV a.d d.mdls.length) := a_0 hB 3
 refine r_o ?_; intro e0 m0
 have HX := a_2 (o_1 a.d.1 d.mdls a.d.2 b n before w0 W hS hn hb hbb hV h.hd o.ld o.mdl)
 clear hV h o hb hB hE hM hS hbb
 generalize a_A before (d.mdls.map Mdl.name) a_n (a_X d.mdls e_m) = v at *
 generalize before ++ d.mdls.map Mdl.name = nn at *
 generalize d.mdls.length = ln at *
 go_enter func51, ntmps51
 go_wp2_with (go_at_call 52; refine (HX.out).mono ?_; rintro e w1 ⟨rfl, hg1, hs1⟩)
 go_ret
 exact ⟨rfl, hg1, hs1⟩
theorem q_A (B M E b n : Nat) (before : List a_3) (d : Dfs) (a : DAdr) (w0 W : World) (hB : g_K W B d a) (hE : W.heap[E]? = some (.cells #[evV] 85)) (hM : W.heap[M]? = some (.cells #[.map (some b)] 88)) (hS : b_d W b n before) (hn : n ≤ 1000) (hbb : w0.heap.size ≤ b) (hb : Below w0.heap.size w0 W) (hV : PjV w0) (h : d.Sl w0 a) (o : d.ok) :
  Calls prog 55 #[a_f B, a_f M, a_f E] W fun e w' => e = .returned (.int .i64 (a_A before (d.snps.map Snp.name) a_n (a_X d.snps f_B))) ∧ W.grownBy w' (some b) ∧ (a_A before (d.snps.map Snp.name) a_n (a_X d.snps f_B) = 0 → b_d w' b (n + d.snps.length) (before ++ d.snps.map Snp.name)) := by
 have c0 : W.cell? ⟨B, 4, none⟩ = some (slV a.n d.snps.length) := a_0 hB 4
 refine r_o ?_; intro e0 m0
 have HX := a_2 (n_L a.n.1 d.snps a.n.2 b n before w0 W hS hn hb hbb hV h.hn o.ln o.snp)
 clear hV h o hb hB hE hM hS hbb
 generalize a_A before (d.snps.map Snp.name) a_n (a_X d.snps f_B) = v at *
 generalize before ++ d.snps.map Snp.name = nn at *
 generalize d.snps.length = ln at *
 go_enter func55, ntmps55
 go_wp2_with (go_at_call 56; refine (HX.out).mono ?_; rintro e w1 ⟨rfl, hg1, hs1⟩)
 go_ret
 exact ⟨rfl, hg1, hs1⟩
theorem r_A (B E : Nat) (d : Dfs) (a : DAdr) (w0 W : World) (hB : g_K W B d a) (hE : W.heap[E]? = some (.cells #[evV] 85)) (hb : Below w0.heap.size w0 W) (hV : PjV w0) (h : d.Sl w0 a) (o : d.ok) :
  Calls prog 60 #[a_f B, a_f E] W fun e w' => e = .returned (.int .i64 (a_A [] (d.chks.map Chk.name) a_n (a_X d.chks e_x))) ∧ Below W.heap.size W w' := by
 have c0 : W.cell? ⟨B, 5, none⟩ = some (slV a.c d.chks.length) := a_0 hB 5
 have e0 : W.cell? ⟨E, 0, none⟩ = some evV := a_0 hE 0
 have hW1 : Below W.heap.size W (W.alloc (.map #[] 0)) := zX
 have HX := a_2 (n_T a.c.1 d.chks a.c.2 W.heap.size 0 [] w0 (W.alloc (.map #[] 0)) (b_d.made W) o_ (a_9 hW1 hb) hb.size hV h.hc o.lc o.chk)
 have c1 : (W.alloc (.map #[] 0)).cell? ⟨B, 5, none⟩ = some (slV a.c d.chks.length) := (hW1.cell (p := ⟨B, 5, none⟩) (a_6 hB)).trans c0
 have e1 : (W.alloc (.map #[] 0)).cell? ⟨E, 0, none⟩ = some evV := (hW1.cell (p := ⟨E, 0, none⟩) (a_6 hE)).trans e0
 clear hV h o hb hB hE
 generalize a_A [] (d.chks.map Chk.name) a_n (a_X d.chks e_x) = v at *
 generalize d.chks.length = ln at *
 have hmm := @run_makeMap prog
 go_enter func60, ntmps60
 go_wp2_with (go_at_call 61; refine (HX.out).mono ?_; rintro e w1 ⟨rfl, hg1, _⟩)
 exact q_J
structure VdI (w V : World) (B n : Nat) (d : Dfs) (a : DAdr) (l : List a_3) : Prop where
 bel : Below w.heap.size w V
 base : w.heap.size ≤ B
 box : g_K V B d a
 mvar : V.heap[B + 2]? = some (.cells #[.map (some (B + 1))] 88)
 ev : V.heap[B + 3]? = some (.cells #[evV] 85)
 arr : V.heap[B + 4]? = some (.cells #[.func (.func 37) #[] #[a_f B, a_f (B + 3)], .func (.func 41) #[] #[a_f B, a_f (B + 2), a_f (B + 3)], .func (.func 45) #[] #[a_f B], .func (.func 51) #[] #[a_f B, a_f (B + 2), a_f (B + 3)], .func (.func 55) #[] #[a_f B, a_f (B + 2), a_f (B + 3)], .func (.func 60) #[] #[a_f B, a_f (B + 3)]] 80)
 set : b_d V (B + 1) n l
theorem VdI.below {w V V' : World} {B n : Nat} {d : Dfs} {a : DAdr} {l : List a_3} (h : VdI w V B n d a l) (hb : Below V.heap.size V V') : VdI w V' B n d a l :=
 ⟨a_9 hb h.bel, h.base, (hb.block _ (a_6 h.box)).trans h.box, (hb.block _ (a_6 h.mvar)).trans h.mvar, (hb.block _ (a_6 h.ev)).trans h.ev, (hb.block _ (a_6 h.arr)).trans h.arr, h.set.kept hb h.set.lt⟩
theorem VdI.grown {w V V' : World} {B n m : Nat} {d : Dfs} {a : DAdr} {l l' : List a_3} (h : VdI w V B n d a l) (hg : V.grownBy V' (some (B + 1))) (hs : b_d V' (B + 1) m l') : VdI w V' B m d a l' :=
 ⟨h.bel.grown hg h.bel.size (fun k hk => by cases hk; have := h.base; omega), h.base, (hg.block _ (a_6 h.box) s_).trans h.box, (hg.block _ (a_6 h.mvar) s_).trans h.mvar, (hg.block _ (a_6 h.ev) s_).trans h.ev, (hg.block _ (a_6 h.arr) s_).trans h.arr, hs⟩
theorem c_1 {before names : List a_3} {good : a_3 → Bool} {own : Nat → Int} (h : a_A before names good own = 0) : names.length ≤ 64 := by
 unfold a_A at h
 split at h
 ·cases h
 ·omega
def vdN (d : Dfs) (j : Nat) : List a_3 := if j ≤ 1 then [] else if j ≤ 3 then d.srcN else if j ≤ 4 then d.srcN ++ d.mdlN else d.srcN ++ d.mdlN ++ d.snpN
set_option maxRecDepth 100000
theorem b_p (d : Dfs) (a : DAdr) (w : World) (hV : PjV w) (h : d.Sl w a) (o : d.ok) :
  Calls prog 11 #[.agg #[slV a.z d.zones.length, slV a.s d.srcs.length, slV a.m d.macs.length, slV a.d d.mdls.length, slV a.n d.snps.length, slV a.c d.chks.length]] w fun e w' => e = .returned (.int .i64 (f_q d)) ∧ Below w.heap.size w w' := by
 obtain ⟨B, hB⟩ : ∃ B, B = w.heap.size := ⟨_, rfl⟩
 have HR := a_2 (show a_o (fun j => [a_A [] (d.zones.map Zon.name) a_n (a_X d.zones f_T), a_A [] (d.srcs.map Srx.name) a_n (a_X d.srcs c_U), a_A [] (d.macs.map Mac.name) (fun s => !biB s) (a_X d.macs e_i), a_A d.srcN (d.mdls.map Mdl.name) a_n (a_X d.mdls e_m), a_A (d.srcN ++ d.mdlN) (d.snps.map Snp.name) a_n (a_X d.snps f_B), a_A [] (d.chks.map Chk.name) a_n (a_X d.chks e_x)].getD j 0) 6 = f_q d from (b_s [a_A [] (d.zones.map Zon.name) a_n (a_X d.zones f_T), a_A [] (d.srcs.map Srx.name) a_n (a_X d.srcs c_U), a_A [] (d.macs.map Mac.name) (fun s => !biB s) (a_X d.macs e_i), a_A d.srcN (d.mdls.map Mdl.name) a_n (a_X d.mdls e_m), a_A (d.srcN ++ d.mdlN) (d.snps.map Snp.name) a_n (a_X d.snps f_B), a_A [] (d.chks.map Chk.name) a_n (a_X d.chks e_x)]).trans (by unfold f_q; simp only [d_m, f_w]; rfl))
 have HI : ∀ V : World, VdI w V B 0 d a [] → Calls prog 20 #[.slice (some ⟨B + 4, 0, none⟩) 6 6] V fun e w' => e = .returned (.int .i64 (f_q d)) ∧ Below w.heap.size w w' := by
  intro V hI
  have H := d_n (B + 4) 6 [(37, #[a_f B, a_f (B + 3)]), (41, #[a_f B, a_f (B + 2), a_f (B + 3)]), (45, #[a_f B]), (51, #[a_f B, a_f (B + 2), a_f (B + 3)]), (55, #[a_f B, a_f (B + 2), a_f (B + 3)]), (60, #[a_f B, a_f (B + 3)])] (fun j => [a_A [] (d.zones.map Zon.name) a_n (a_X d.zones f_T), a_A [] (d.srcs.map Srx.name) a_n (a_X d.srcs c_U), a_A [] (d.macs.map Mac.name) (fun s => !biB s) (a_X d.macs e_i), a_A d.srcN (d.mdls.map Mdl.name) a_n (a_X d.mdls e_m), a_A (d.srcN ++ d.mdlN) (d.snps.map Snp.name) a_n (a_X d.snps f_B), a_A [] (d.chks.map Chk.name) a_n (a_X d.chks e_x)].getD j 0) (fun j W => ∃ n, n ≤ 64 * j ∧ VdI w W B n d a (vdN d j)) (fun W => Below w.heap.size w W) V ⟨0, o_, hI⟩ (show (6 : Nat) ≤ 10 from by decide) (fun j W ⟨n, _, hi⟩ => hi.bel)
   (fun j hj W ⟨n, _, hi⟩ => by
    have h9 : j < 6 := hj
    match j, h9 with
    | 0, _ => have h8 := a_0 hi.arr 0; exact h8
    | 1, _ => have h8 := a_0 hi.arr 1; exact h8
    | 2, _ => have h8 := a_0 hi.arr 2; exact h8
    | 3, _ => have h8 := a_0 hi.arr 3; exact h8
    | 4, _ => have h8 := a_0 hi.arr 4; exact h8
    | 5, _ => have h8 := a_0 hi.arr 5; exact h8)
   (fun j hj args W => by
    have h9 : j < 6 := hj
    match j, h9 with
    | 0, _ => exact (show (callFunc 37 args).run prog W = .ok (.enter 37 args) W by kernel_rfl)
    | 1, _ => exact (show (callFunc 41 args).run prog W = .ok (.enter 41 args) W by kernel_rfl)
    | 2, _ => exact (show (callFunc 45 args).run prog W = .ok (.enter 45 args) W by kernel_rfl)
    | 3, _ => exact (show (callFunc 51 args).run prog W = .ok (.enter 51 args) W by kernel_rfl)
    | 4, _ => exact (show (callFunc 55 args).run prog W = .ok (.enter 55 args) W by kernel_rfl)
    | 5, _ => exact (show (callFunc 60 args).run prog W = .ok (.enter 60 args) W by kernel_rfl))
   (fun j hj W ⟨n, hn, hi⟩ => by
    have h9 : j < 6 := hj
    match j, h9 with
    | 0, _ => exact (q_Z B (B + 3) d a w W hi.box hi.ev hi.bel hV h o).mono fun e w' ⟨h1, h2⟩ => ⟨h1, a_9 h2 hi.bel, fun _ => ⟨n, o_, hi.below h2⟩⟩
    | 1, _ => exact (q_N B (B + 2) (B + 3) (B + 1) n [] d a w W hi.box hi.ev hi.mvar hi.set o_ (by have := hi.base; omega) hi.bel hV h o).mono fun e w' ⟨h1, h2, h3⟩ => ⟨h1, hi.bel.grown h2 hi.bel.size (fun k hk => by cases hk; have := hi.base; omega), fun e0 => ⟨n + d.srcs.length, by have := c_1 e0; simp at this; omega, hi.grown h2 (h3 e0)⟩⟩
    | 2, _ => exact (r_1 B d a w W hi.box hi.bel hV h o).mono fun e w' ⟨h1, h2⟩ => ⟨h1, a_9 h2 hi.bel, fun _ => ⟨n, o_, hi.below h2⟩⟩
    | 3, _ => exact (r_5 B (B + 2) (B + 3) (B + 1) n d.srcN d a w W hi.box hi.ev hi.mvar hi.set o_ (by have := hi.base; omega) hi.bel hV h o).mono fun e w' ⟨h1, h2, h3⟩ => ⟨h1, hi.bel.grown h2 hi.bel.size (fun k hk => by cases hk; have := hi.base; omega), fun e0 => ⟨n + d.mdls.length, by have := c_1 e0; simp at this; omega, hi.grown h2 (h3 e0)⟩⟩
    | 4, _ => exact (q_A B (B + 2) (B + 3) (B + 1) n (d.srcN ++ d.mdlN) d a w W hi.box hi.ev hi.mvar hi.set o_ (by have := hi.base; omega) hi.bel hV h o).mono fun e w' ⟨h1, h2, h3⟩ => ⟨h1, hi.bel.grown h2 hi.bel.size (fun k hk => by cases hk; have := hi.base; omega), fun e0 => ⟨n + d.snps.length, by have := c_1 e0; simp at this; omega, hi.grown h2 (h3 e0)⟩⟩
    | 5, _ => exact (r_A B (B + 3) d a w W hi.box hi.ev hi.bel hV h o).mono fun e w' ⟨h1, h2⟩ => ⟨h1, a_9 h2 hi.bel, fun _ => ⟨n, o_, hi.below h2⟩⟩)
  exact H.mono fun e w' ⟨h1, h2, _⟩ => ⟨h1.trans (by rw [← HR.out]; rfl), h2⟩
 have HF := a_2 (HI (((((w.alloc (.cells #[slV a.z d.zones.length, slV a.s d.srcs.length, slV a.m d.macs.length, slV a.d d.mdls.length, slV a.n d.snps.length, slV a.c d.chks.length] 34)).alloc (.map #[] 0)).alloc (.cells #[.map (some (B + 1))] 88)).alloc (.cells #[evV] 85)).alloc (.cells #[.func (.func 37) #[] #[a_f B, a_f (B + 3)], .func (.func 41) #[] #[a_f B, a_f (B + 2), a_f (B + 3)], .func (.func 45) #[] #[a_f B], .func (.func 51) #[] #[a_f B, a_f (B + 2), a_f (B + 3)], .func (.func 55) #[] #[a_f B, a_f (B + 2), a_f (B + 3)], .func (.func 60) #[] #[a_f B, a_f (B + 3)]] 80)) (by
  subst hB
  exact ⟨zX, l_ _, a_K (a_K (a_K (a_K (heap_alloc_new _ _)))), a_K (a_K (a_M _ _ _ s_)), a_K (a_M _ _ _ s_), a_M _ _ _ s_,
   (show b_d ((w.alloc (.cells #[slV a.z d.zones.length, slV a.s d.srcs.length, slV a.m d.macs.length, slV a.d d.mdls.length, slV a.n d.snps.length, slV a.c d.chks.length] 34)).alloc (.map #[] 0)) (w.heap.size + 1) 0 [] from by have h9 := b_d.made (w.alloc (.cells #[slV a.z d.zones.length, slV a.s d.srcs.length, slV a.m d.macs.length, slV a.d d.mdls.length, slV a.n d.snps.length, slV a.c d.chks.length] 34)); simpa using h9).kept (B := w.heap.size + 2) zX o_⟩))
 clear hV h o HI HR
 generalize f_q d = v at *
 subst hB
 have hmm := @run_makeMap prog
 go_enter func11, ntmps11
 go_wp2_with (go_at_call 20; refine (HF.out).mono ?_; rintro e w1 ⟨rfl, hb1⟩)
 exact d_s
set_option maxRecDepth 512
theorem o_e (s : a_3) : decide (0 ≤ Lib.indexByte s 46) = b_e s := by
 obtain ⟨h1, h2⟩ := g_8 s
 rw [Bool.eq_iff_iff, decide_eq_true_eq]
 unfold b_e
 rw [List.any_eq_true]
 constructor
 ·intro h
  have h3 := (h2 o_).2
  exact ⟨s[c_W s], List.getElem_mem h3, by simp [f_5 s h3]⟩
 ·rintro ⟨c, hc, e⟩
  by_cases h : Lib.indexByte s 46 < 0
  ·exfalso
   have h3 := h1 h; obtain ⟨i, hi, rfl⟩ := List.mem_iff_getElem.1 hc; have := (j_0 s i o_).2
   simp at e
   exact this e
  ·omega
theorem j_f (x : a_3) (w : World) : Calls prog 87 #[str x] w fun e w' => e = .returned (.bool (b_e x)) ∧ Below w.heap.size w w' := by
 have H := a_2 (show Calls prog 88 #[str x, .string ⟨#[46]⟩] w (fun e w' => e = .returned (.bool (b_e x)) ∧ w' = w) from by
  rw [← o_e]
  exact Tryz.strings_Contains_one ⟨x.toArray⟩ 46 w)
 generalize b_e x = q at *
 go_enter func87, ntmps87
 go_wp2_with (go_at_call 88; refine (H.out).mono ?_; rintro e w' ⟨rfl, rfl⟩)
 go_ret
 exact ⟨rfl, b_ _ _⟩
def q_k (l : List a_3) (i : Nat) : Value := match l[i]? with
 | some x => str x
 | none => undef
theorem l_o {l : List a_3} {i : Nat} (h : i < l.length) : q_k l i = str l[i] := by
 unfold q_k; rw [List.getElem?_eq_getElem h]
theorem n_s {w : World} {A : Option Addr} {l : List a_3} (h : b_b w A l) : n_S w A l.length (q_k l) := by
 rcases h with h | ⟨g, off, hA, hg, hc⟩
 ·exact .inl (by rw [h]; rfl)
 ·exact .inr ⟨g, off, hA, fun i hi => ⟨_, l_o hi, hc i hi⟩⟩
def q_8 (l : List a_3) (i : Nat) : Bool := match l[i]? with
 | some x => b_e x
 | none => false
theorem j_6 {l : List a_3} {i : Nat} (h : i < l.length) : q_8 l i = b_e l[i] := by
 unfold q_8; rw [List.getElem?_eq_getElem h]
theorem m_s (l : List a_3) : f_8 (q_8 l) l.length = l.any b_e := by
 rw [Bool.eq_iff_iff]
 unfold f_8
 rw [List.any_eq_true, List.any_eq_true]
 constructor
 ·rintro ⟨i, hi, h⟩
  have hi' := List.mem_range.1 hi
  rw [j_6 hi'] at h
  exact ⟨_, List.getElem_mem hi', h⟩
 ·rintro ⟨y, hy, h⟩
  obtain ⟨i, hi, rfl⟩ := List.mem_iff_getElem.1 hy
  exact ⟨i, List.mem_range.2 hi, by rw [j_6 hi]; exact h⟩
structure NmI (d : Dfs) (a : DAdr) (w V : World) (A : Option Addr) (c : Nat) (l : List a_3) : Prop where
 own : V.ownsRow (w.heap.size + 1) 9 1 (.slice A l.length c) l.length (l.map str)
 bel : Below (w.heap.size + 1) (w.alloc (.cells #[slV a.z d.zones.length, slV a.s d.srcs.length, slV a.m d.macs.length, slV a.d d.mdls.length, slV a.n d.snps.length, slV a.c d.chks.length] 34)) V
set_option maxRecDepth 100000
theorem e_F (d : Dfs) (a : DAdr) (w : World) (h : d.Sl w a) (l0 : d.zones.length ≤ 64) (l1 : d.srcs.length ≤ 64) (l2 : d.macs.length ≤ 64) (l3 : d.mdls.length ≤ 64) (l4 : d.snps.length ≤ 64) (l5 : d.chks.length ≤ 64) :
  Calls prog 31 #[.agg #[slV a.z d.zones.length, slV a.s d.srcs.length, slV a.m d.macs.length, slV a.d d.mdls.length, slV a.n d.snps.length, slV a.c d.chks.length]] w fun e w' => e = .returned (.bool (d.names.any b_e)) ∧ Below w.heap.size w w' := by
 refine l_R ?_; intro i0 hi hz0 hz1 hz2
 have hbox : Below (w.heap.size + 1) (w.alloc (.cells #[slV a.z d.zones.length, slV a.s d.srcs.length, slV a.m d.macs.length, slV a.d d.mdls.length, slV a.n d.snps.length, slV a.c d.chks.length] 34)) (w.alloc (.cells #[slV a.z d.zones.length, slV a.s d.srcs.length, slV a.m d.macs.length, slV a.d d.mdls.length, slV a.n d.snps.length, slV a.c d.chks.length] 34)) := b_ _ _
 have HC := a_2 (fun (A : Option Addr) (c : Nat) (l : List a_3) (W : World) (hl : l.length ≤ 8796093022208) (hs : b_b W A l) => show Calls prog 86 #[.slice A l.length c, .func (.func 87) #[] #[]] W (fun e w' => e = .returned (.bool (l.any b_e)) ∧ Below W.heap.size W w') from by
  have h := j_9 A c l.length 87 #[] (q_k l) (q_8 l) W hl (fun V hV => n_s (hs.below hV)) (fun args V => by kernel_rfl) (fun i hi V hV => by
   rw [l_o hi, j_6 hi]
   exact j_f _ V)
  rw [m_s] at h
  exact h)
 have HZon := a_2 h.hz
 have HSrx := a_2 h.hs
 have HMac := a_2 h.hm
 have HMdl := a_2 h.hd
 have HSnp := a_2 h.hn
 have HChk := a_2 h.hc
 have hN0 : (d.zones.map Zon.name).length = d.zones.length := by simp
 have hN1 : (d.srcs.map Srx.name).length = d.srcs.length := by simp
 have hN2 : (d.macs.map Mac.name).length = d.macs.length := by simp
 have hN3 : (d.mdls.map Mdl.name).length = d.mdls.length := by simp
 have hN4 : (d.snps.map Snp.name).length = d.snps.length := by simp
 have hN5 : (d.chks.map Chk.name).length = d.chks.length := by simp
 have HE := a_2 (show d.names = d.zones.map Zon.name ++ (d.srcs.map Srx.name ++ (d.macs.map Mac.name ++ (d.mdls.map Mdl.name ++ (d.snps.map Snp.name ++ d.chks.map Chk.name)))) from rfl)
 clear h
 obtain ⟨⟨zA, zC⟩, ⟨sA, sC⟩, ⟨mA, mC⟩, ⟨dA, dC⟩, ⟨nA, nC⟩, ⟨cA, cC⟩⟩ := a
 dsimp only [slV] at *
 go_enter func31, ntmps31
 go_wp2
 go_loopw [3, 19] (fun sv i wr => ∃ (k : Nat) (A' : Option Addr) (c' : Nat), k ≤ d.zones.length ∧ i = .int .i64 k ∧ sv = .slice A' (([]) ++ (d.zones.map Zon.name).take k).length c' ∧ Hid (NmI d ⟨⟨zA, zC⟩, ⟨sA, sC⟩, ⟨mA, mC⟩, ⟨dA, dC⟩, ⟨nA, nC⟩, ⟨cA, cC⟩⟩ w wr A' c' (([]) ++ (d.zones.map Zon.name).take k))) (fun _ i _ => d.zones.length - (intOf i).toNat)
 case atStart => exact ⟨0, none, 0, o_, rfl, rfl, ⟨b_f _ _ _ _, hbox⟩⟩
 case round =>
  obtain ⟨k, A', c', hk, rfl, rfl, HI⟩ := hrel
  have hbel := a_5 HI.out.bel
  by_cases hlt : k < d.zones.length
  ·rcases HZon.out with e | ⟨g, off, hA, hg, hc⟩
   ·exact absurd hlt e_
   refine o_J ?_; intro vs hC hcs hcw; have hk2 : k < (d.zones.map Zon.name).length := by omega
   have HTk := a_2 (show ([]) ++ (d.zones.map Zon.name).take (k + 1) = (([]) ++ (d.zones.map Zon.name).take k) ++ [(d.zones[k]).name] from by rw [List.take_succ_eq_append_getElem hk2, List.getElem_map]; simp only [List.append_assoc])
   have hvs : ∃ (i1 : Int) (S2 : Option Addr) (m2 c2 : Nat), vs = [str (d.zones[k]).name, .int .i64 i1, .slice S2 m2 c2] := by
    obtain ⟨a', h1, rfl⟩ := hC; exact ⟨_, _, _, _, rfl⟩
   obtain ⟨i1, S2, m2, c2, rfl⟩ := hvs; clear hC hc hcs; have e0 : wr.cell? ⟨g, off + k * 3, none⟩ = some (str (d.zones[k]).name) := by simpa using hcw 0 s_
   have e1 : wr.cell? ⟨g, off + k * 3 + 1, none⟩ = some (.int .i64 i1) := by simpa using hcw 1 s_
   refine q_0 ?_; intro e2; clear hcw; subst hA; have hlen : (([]) ++ (d.zones.map Zon.name).take k).length ≤ 400 := by simp; omega
   generalize (d.zones[k]).name = s at *; generalize ([]) ++ (d.zones.map Zon.name).take k = P at *; have hsz := hbel.size; have own1 := HI.out.own; have HAL := a_2 (show Below wr.heap.size wr ((wr.alloc (.cells #[str s, .int .i64 i1, .slice S2 m2 c2] 47)).alloc (.cells #[str s] 9)) from zX)
   go_wp2_with (at_builtin; refine wpList_append_own _ rfl _ _ 26 rfl (w.heap.size + 1) 9 i0 _ 1 16 underlying26 hi hz0 hz1 hz2 rfl d_ _ _ _ rfl (a_g own1 zX) ⟨wr.heap.size + 1, 0, none⟩ 1 1 [str s] rfl rfl (by exact b_3 (a_M _ _ _ s_)) c_ x_ o_ m_ ?_; intro v' w3 hown3 hgrow _; have hb3 := (a_1 HI.out.bel s_ HAL.out).grown hgrow (by have := HI.out.bel.size; simp at this; simp; omega) (fun j hj => (HI.out.own.lt j hj).1); obtain ⟨A3, c3, rfl⟩ := a_j hown3)
   exact o_x
  ·obtain rfl : k = d.zones.length := by omega
   rw [List.take_of_length_le o_] at HI; obtain ⟨A1, c1, HI1, eA1⟩ : ∃ (A9 : Option Addr) (c9 : Nat), Hid (NmI d ⟨⟨zA, zC⟩, ⟨sA, sC⟩, ⟨mA, mC⟩, ⟨dA, dC⟩, ⟨nA, nC⟩, ⟨cA, cC⟩⟩ w wr A9 c9 (([]) ++ (d.zones.map Zon.name))) ∧ Value.slice A' (([]) ++ (d.zones.map Zon.name).take d.zones.length).length c' = .slice A9 (([]) ++ (d.zones.map Zon.name)).length c9 := ⟨A', c', HI, by rw [List.take_of_length_le o_]⟩; rw [eA1]; clear HI eA1 HZon; obtain ⟨f0, f1, f2, f3, f4, f5, hlw⟩ := a_R HI1.out.bel
   dsimp only [slV] at f0 f1 f2 f3 f4 f5
   go_wp2
   go_loopw [3, 32] (fun sv i wr => ∃ (k : Nat) (A' : Option Addr) (c' : Nat), k ≤ d.srcs.length ∧ i = .int .i64 k ∧ sv = .slice A' ((d.zones.map Zon.name) ++ (d.srcs.map Srx.name).take k).length c' ∧ Hid (NmI d ⟨⟨zA, zC⟩, ⟨sA, sC⟩, ⟨mA, mC⟩, ⟨dA, dC⟩, ⟨nA, nC⟩, ⟨cA, cC⟩⟩ w wr A' c' ((d.zones.map Zon.name) ++ (d.srcs.map Srx.name).take k))) (fun _ i _ => d.srcs.length - (intOf i).toNat)
   case atStart => exact ⟨0, A1, c1, o_, rfl, s_, by rw [List.take_zero, List.append_nil]; exact HI1⟩
   case round =>
    obtain ⟨k, A', c', hk, rfl, rfl, HI⟩ := hrel; have hbel := a_5 HI.out.bel
    by_cases hlt : k < d.srcs.length
    ·rcases HSrx.out with e | ⟨g, off, hA, hg, hc⟩
     ·exact absurd hlt e_
     refine o_J ?_; intro vs hC hcs hcw; have hk2 : k < (d.srcs.map Srx.name).length := by omega
     have HTk := a_2 (show (d.zones.map Zon.name) ++ (d.srcs.map Srx.name).take (k + 1) = ((d.zones.map Zon.name) ++ (d.srcs.map Srx.name).take k) ++ [(d.srcs[k]).name] from by rw [List.take_succ_eq_append_getElem hk2, List.getElem_map]; simp only [List.append_assoc])
     have hvs : ∃ (S1 : Option Addr) (m1 c1 : Nat) (S2 : Option Addr) (m2 c2 : Nat) (t3 : a_3) (t4 : a_3) (i5 : Int) (i6 : Int), vs = [str (d.srcs[k]).name, .slice S1 m1 c1, .slice S2 m2 c2, str t3, str t4, .int .i64 i5, .int .i64 i6] := by
      obtain ⟨a', b, h1, h2, rfl⟩ := hC; exact ⟨_, _, _, _, _, _, _, _, _, _, rfl⟩
     obtain ⟨S1, m1, c1, S2, m2, c2, t3, t4, i5, i6, rfl⟩ := hvs; clear hC hc hcs; have e0 : wr.cell? ⟨g, off + k * 7, none⟩ = some (str (d.srcs[k]).name) := by simpa using hcw 0 s_
     refine r_J ?_; intro e1 e2 e3 e4 e5 e6; clear hcw; subst hA; have hlen : ((d.zones.map Zon.name) ++ (d.srcs.map Srx.name).take k).length ≤ 400 := by simp; omega
     generalize (d.srcs[k]).name = s at *; generalize (d.zones.map Zon.name) ++ (d.srcs.map Srx.name).take k = P at *; have hsz := hbel.size; have own1 := HI.out.own; have HAL := a_2 (show Below wr.heap.size wr ((wr.alloc (.cells #[str s, .slice S1 m1 c1, .slice S2 m2 c2, str t3, str t4, .int .i64 i5, .int .i64 i6] 57)).alloc (.cells #[str s] 9)) from zX)
     go_wp2_with (at_builtin; refine wpList_append_own _ rfl _ _ 26 rfl (w.heap.size + 1) 9 i0 _ 1 16 underlying26 hi hz0 hz1 hz2 rfl d_ _ _ _ rfl (a_g own1 zX) ⟨wr.heap.size + 1, 0, none⟩ 1 1 [str s] rfl rfl (by exact b_3 (a_M _ _ _ s_)) c_ x_ o_ m_ ?_; intro v' w3 hown3 hgrow _; have hb3 := (a_1 HI.out.bel s_ HAL.out).grown hgrow (by have := HI.out.bel.size; simp at this; simp; omega) (fun j hj => (HI.out.own.lt j hj).1); obtain ⟨A3, c3, rfl⟩ := a_j hown3)
     exact o_x
    ·obtain rfl : k = d.srcs.length := by omega
     rw [List.take_of_length_le o_] at HI; obtain ⟨A2, c2, HI2, eA2⟩ : ∃ (A9 : Option Addr) (c9 : Nat), Hid (NmI d ⟨⟨zA, zC⟩, ⟨sA, sC⟩, ⟨mA, mC⟩, ⟨dA, dC⟩, ⟨nA, nC⟩, ⟨cA, cC⟩⟩ w wr A9 c9 ((d.zones.map Zon.name) ++ (d.srcs.map Srx.name))) ∧ Value.slice A' ((d.zones.map Zon.name) ++ (d.srcs.map Srx.name).take d.srcs.length).length c' = .slice A9 ((d.zones.map Zon.name) ++ (d.srcs.map Srx.name)).length c9 := ⟨A', c', HI, by rw [List.take_of_length_le o_]⟩; rw [eA2]; clear HI eA2 HSrx; obtain ⟨f0, f1, f2, f3, f4, f5, hlw⟩ := a_R HI2.out.bel
     dsimp only [slV] at f0 f1 f2 f3 f4 f5
     go_wp2
     go_loopw [3, 45] (fun sv i wr => ∃ (k : Nat) (A' : Option Addr) (c' : Nat), k ≤ d.macs.length ∧ i = .int .i64 k ∧ sv = .slice A' ((d.zones.map Zon.name ++ d.srcs.map Srx.name) ++ (d.macs.map Mac.name).take k).length c' ∧ Hid (NmI d ⟨⟨zA, zC⟩, ⟨sA, sC⟩, ⟨mA, mC⟩, ⟨dA, dC⟩, ⟨nA, nC⟩, ⟨cA, cC⟩⟩ w wr A' c' ((d.zones.map Zon.name ++ d.srcs.map Srx.name) ++ (d.macs.map Mac.name).take k))) (fun _ i _ => d.macs.length - (intOf i).toNat)
     case atStart => exact ⟨0, A2, c2, o_, rfl, s_, by rw [List.take_zero, List.append_nil]; exact HI2⟩
     case round =>
      obtain ⟨k, A', c', hk, rfl, rfl, HI⟩ := hrel; have hbel := a_5 HI.out.bel
      by_cases hlt : k < d.macs.length
      ·rcases HMac.out with e | ⟨g, off, hA, hg, hc⟩
       ·exact absurd hlt e_
       refine o_J ?_; intro vs hC hcs hcw; have hk2 : k < (d.macs.map Mac.name).length := by omega
       have HTk := a_2 (show (d.zones.map Zon.name ++ d.srcs.map Srx.name) ++ (d.macs.map Mac.name).take (k + 1) = ((d.zones.map Zon.name ++ d.srcs.map Srx.name) ++ (d.macs.map Mac.name).take k) ++ [(d.macs[k]).name] from by rw [List.take_succ_eq_append_getElem hk2, List.getElem_map]; simp only [List.append_assoc])
       have hvs : ∃ (S1 : Option Addr) (m1 c1 : Nat) (S2 : Option Addr) (m2 c2 : Nat), vs = [str (d.macs[k]).name, .slice S1 m1 c1, .slice S2 m2 c2] := by
        obtain ⟨a', b, h1, h2, rfl⟩ := hC; exact ⟨_, _, _, _, _, _, rfl⟩
       obtain ⟨S1, m1, c1, S2, m2, c2, rfl⟩ := hvs; clear hC hc hcs; have e0 : wr.cell? ⟨g, off + k * 3, none⟩ = some (str (d.macs[k]).name) := by simpa using hcw 0 s_
       have e1 : wr.cell? ⟨g, off + k * 3 + 1, none⟩ = some (.slice S1 m1 c1) := by simpa using hcw 1 s_
       refine q_0 ?_; intro e2; clear hcw; subst hA; have hlen : ((d.zones.map Zon.name ++ d.srcs.map Srx.name) ++ (d.macs.map Mac.name).take k).length ≤ 400 := by simp; omega
       generalize (d.macs[k]).name = s at *; generalize (d.zones.map Zon.name ++ d.srcs.map Srx.name) ++ (d.macs.map Mac.name).take k = P at *; have hsz := hbel.size; have own1 := HI.out.own; have HAL := a_2 (show Below wr.heap.size wr ((wr.alloc (.cells #[str s, .slice S1 m1 c1, .slice S2 m2 c2] 74)).alloc (.cells #[str s] 9)) from zX)
       go_wp2_with (at_builtin; refine wpList_append_own _ rfl _ _ 26 rfl (w.heap.size + 1) 9 i0 _ 1 16 underlying26 hi hz0 hz1 hz2 rfl d_ _ _ _ rfl (a_g own1 zX) ⟨wr.heap.size + 1, 0, none⟩ 1 1 [str s] rfl rfl (by exact b_3 (a_M _ _ _ s_)) c_ x_ o_ m_ ?_; intro v' w3 hown3 hgrow _; have hb3 := (a_1 HI.out.bel s_ HAL.out).grown hgrow (by have := HI.out.bel.size; simp at this; simp; omega) (fun j hj => (HI.out.own.lt j hj).1); obtain ⟨A3, c3, rfl⟩ := a_j hown3)
       exact o_x
      ·obtain rfl : k = d.macs.length := by omega
       rw [List.take_of_length_le o_] at HI; obtain ⟨A3, c3, HI3, eA3⟩ : ∃ (A9 : Option Addr) (c9 : Nat), Hid (NmI d ⟨⟨zA, zC⟩, ⟨sA, sC⟩, ⟨mA, mC⟩, ⟨dA, dC⟩, ⟨nA, nC⟩, ⟨cA, cC⟩⟩ w wr A9 c9 ((d.zones.map Zon.name ++ d.srcs.map Srx.name) ++ (d.macs.map Mac.name))) ∧ Value.slice A' ((d.zones.map Zon.name ++ d.srcs.map Srx.name) ++ (d.macs.map Mac.name).take d.macs.length).length c' = .slice A9 ((d.zones.map Zon.name ++ d.srcs.map Srx.name) ++ (d.macs.map Mac.name)).length c9 := ⟨A', c', HI, by rw [List.take_of_length_le o_]⟩; rw [eA3]; clear HI eA3 HMac; obtain ⟨f0, f1, f2, f3, f4, f5, hlw⟩ := a_R HI3.out.bel
       dsimp only [slV] at f0 f1 f2 f3 f4 f5
       go_wp2
       go_loopw [3, 58] (fun sv i wr => ∃ (k : Nat) (A' : Option Addr) (c' : Nat), k ≤ d.mdls.length ∧ i = .int .i64 k ∧ sv = .slice A' ((d.zones.map Zon.name ++ d.srcs.map Srx.name ++ d.macs.map Mac.name) ++ (d.mdls.map Mdl.name).take k).length c' ∧ Hid (NmI d ⟨⟨zA, zC⟩, ⟨sA, sC⟩, ⟨mA, mC⟩, ⟨dA, dC⟩, ⟨nA, nC⟩, ⟨cA, cC⟩⟩ w wr A' c' ((d.zones.map Zon.name ++ d.srcs.map Srx.name ++ d.macs.map Mac.name) ++ (d.mdls.map Mdl.name).take k))) (fun _ i _ => d.mdls.length - (intOf i).toNat)
       case atStart => exact ⟨0, A3, c3, o_, rfl, s_, by rw [List.take_zero, List.append_nil]; exact HI3⟩
       case round =>
        obtain ⟨k, A', c', hk, rfl, rfl, HI⟩ := hrel; have hbel := a_5 HI.out.bel
        by_cases hlt : k < d.mdls.length
        ·rcases HMdl.out with e | ⟨g, off, hA, hg, hc⟩
         ·exact absurd hlt e_
         refine o_J ?_; intro vs hC hcs hcw; have hk2 : k < (d.mdls.map Mdl.name).length := by omega
         have HTk := a_2 (show (d.zones.map Zon.name ++ d.srcs.map Srx.name ++ d.macs.map Mac.name) ++ (d.mdls.map Mdl.name).take (k + 1) = ((d.zones.map Zon.name ++ d.srcs.map Srx.name ++ d.macs.map Mac.name) ++ (d.mdls.map Mdl.name).take k) ++ [(d.mdls[k]).name] from by rw [List.take_succ_eq_append_getElem hk2, List.getElem_map]; simp only [List.append_assoc])
         have hvs : ∃ (S1 : Option Addr) (m1 c1 : Nat) (S2 : Option Addr) (m2 c2 : Nat) (t3 : a_3) (t4 : a_3) (i5 : Int) (t6 : a_3) (i7 : Int), vs = [str (d.mdls[k]).name, .slice S1 m1 c1, .slice S2 m2 c2, str t3, str t4, .int .i64 i5, str t6, .int .i64 i7] := by
          obtain ⟨a', b, h1, h2, rfl⟩ := hC; exact ⟨_, _, _, _, _, _, _, _, _, _, _, rfl⟩
         obtain ⟨S1, m1, c1, S2, m2, c2, t3, t4, i5, t6, i7, rfl⟩ := hvs; clear hC hc hcs; have e0 : wr.cell? ⟨g, off + k * 8, none⟩ = some (str (d.mdls[k]).name) := by simpa using hcw 0 s_
         refine _ac ?_; intro e1 e2 e3 e4 e5 e6 e7; clear hcw; subst hA; have hlen : ((d.zones.map Zon.name ++ d.srcs.map Srx.name ++ d.macs.map Mac.name) ++ (d.mdls.map Mdl.name).take k).length ≤ 400 := by simp; omega
         generalize (d.mdls[k]).name = s at *; generalize (d.zones.map Zon.name ++ d.srcs.map Srx.name ++ d.macs.map Mac.name) ++ (d.mdls.map Mdl.name).take k = P at *; have hsz := hbel.size; have own1 := HI.out.own; have HAL := a_2 (show Below wr.heap.size wr ((wr.alloc (.cells #[str s, .slice S1 m1 c1, .slice S2 m2 c2, str t3, str t4, .int .i64 i5, str t6, .int .i64 i7] 62)).alloc (.cells #[str s] 9)) from zX)
         go_wp2_with (at_builtin; refine wpList_append_own _ rfl _ _ 26 rfl (w.heap.size + 1) 9 i0 _ 1 16 underlying26 hi hz0 hz1 hz2 rfl d_ _ _ _ rfl (a_g own1 zX) ⟨wr.heap.size + 1, 0, none⟩ 1 1 [str s] rfl rfl (by exact b_3 (a_M _ _ _ s_)) c_ x_ o_ m_ ?_; intro v' w3 hown3 hgrow _; have hb3 := (a_1 HI.out.bel s_ HAL.out).grown hgrow (by have := HI.out.bel.size; simp at this; simp; omega) (fun j hj => (HI.out.own.lt j hj).1); obtain ⟨A3, c3, rfl⟩ := a_j hown3)
         exact o_x
        ·obtain rfl : k = d.mdls.length := by omega
         rw [List.take_of_length_le o_] at HI; obtain ⟨A4, c4, HI4, eA4⟩ : ∃ (A9 : Option Addr) (c9 : Nat), Hid (NmI d ⟨⟨zA, zC⟩, ⟨sA, sC⟩, ⟨mA, mC⟩, ⟨dA, dC⟩, ⟨nA, nC⟩, ⟨cA, cC⟩⟩ w wr A9 c9 ((d.zones.map Zon.name ++ d.srcs.map Srx.name ++ d.macs.map Mac.name) ++ (d.mdls.map Mdl.name))) ∧ Value.slice A' ((d.zones.map Zon.name ++ d.srcs.map Srx.name ++ d.macs.map Mac.name) ++ (d.mdls.map Mdl.name).take d.mdls.length).length c' = .slice A9 ((d.zones.map Zon.name ++ d.srcs.map Srx.name ++ d.macs.map Mac.name) ++ (d.mdls.map Mdl.name)).length c9 := ⟨A', c', HI, by rw [List.take_of_length_le o_]⟩; rw [eA4]; clear HI eA4 HMdl; obtain ⟨f0, f1, f2, f3, f4, f5, hlw⟩ := a_R HI4.out.bel
         dsimp only [slV] at f0 f1 f2 f3 f4 f5
         go_wp2
         go_loopw [3, 71] (fun sv i wr => ∃ (k : Nat) (A' : Option Addr) (c' : Nat), k ≤ d.snps.length ∧ i = .int .i64 k ∧ sv = .slice A' ((d.zones.map Zon.name ++ d.srcs.map Srx.name ++ d.macs.map Mac.name ++ d.mdls.map Mdl.name) ++ (d.snps.map Snp.name).take k).length c' ∧ Hid (NmI d ⟨⟨zA, zC⟩, ⟨sA, sC⟩, ⟨mA, mC⟩, ⟨dA, dC⟩, ⟨nA, nC⟩, ⟨cA, cC⟩⟩ w wr A' c' ((d.zones.map Zon.name ++ d.srcs.map Srx.name ++ d.macs.map Mac.name ++ d.mdls.map Mdl.name) ++ (d.snps.map Snp.name).take k))) (fun _ i _ => d.snps.length - (intOf i).toNat)
         case atStart => exact ⟨0, A4, c4, o_, rfl, s_, by rw [List.take_zero, List.append_nil]; exact HI4⟩
         case round =>
          obtain ⟨k, A', c', hk, rfl, rfl, HI⟩ := hrel; have hbel := a_5 HI.out.bel
          by_cases hlt : k < d.snps.length
          ·rcases HSnp.out with e | ⟨g, off, hA, hg, hc⟩
           ·exact absurd hlt e_
           refine o_J ?_; intro vs hC hcs hcw; have hk2 : k < (d.snps.map Snp.name).length := by omega
           have HTk := a_2 (show (d.zones.map Zon.name ++ d.srcs.map Srx.name ++ d.macs.map Mac.name ++ d.mdls.map Mdl.name) ++ (d.snps.map Snp.name).take (k + 1) = ((d.zones.map Zon.name ++ d.srcs.map Srx.name ++ d.macs.map Mac.name ++ d.mdls.map Mdl.name) ++ (d.snps.map Snp.name).take k) ++ [(d.snps[k]).name] from by rw [List.take_succ_eq_append_getElem hk2, List.getElem_map]; simp only [List.append_assoc])
           have hvs : ∃ (t1 : a_3), vs = [str (d.snps[k]).name, str t1] := by
            obtain rfl := hC; exact ⟨_, rfl⟩
           obtain ⟨t1, rfl⟩ := hvs; clear hC hc hcs; have e0 : wr.cell? ⟨g, off + k * 2, none⟩ = some (str (d.snps[k]).name) := by simpa using hcw 0 s_
           have e1 : wr.cell? ⟨g, off + k * 2 + 1, none⟩ = some (str t1) := by simpa using hcw 1 s_
           clear hcw; subst hA; have hlen : ((d.zones.map Zon.name ++ d.srcs.map Srx.name ++ d.macs.map Mac.name ++ d.mdls.map Mdl.name) ++ (d.snps.map Snp.name).take k).length ≤ 400 := by simp; omega
           generalize (d.snps[k]).name = s at *; generalize (d.zones.map Zon.name ++ d.srcs.map Srx.name ++ d.macs.map Mac.name ++ d.mdls.map Mdl.name) ++ (d.snps.map Snp.name).take k = P at *; have hsz := hbel.size; have own1 := HI.out.own; have HAL := a_2 (show Below wr.heap.size wr ((wr.alloc (.cells #[str s, str t1] 52)).alloc (.cells #[str s] 9)) from zX)
           go_wp2_with (at_builtin; refine wpList_append_own _ rfl _ _ 26 rfl (w.heap.size + 1) 9 i0 _ 1 16 underlying26 hi hz0 hz1 hz2 rfl d_ _ _ _ rfl (a_g own1 zX) ⟨wr.heap.size + 1, 0, none⟩ 1 1 [str s] rfl rfl (by exact b_3 (a_M _ _ _ s_)) c_ x_ o_ m_ ?_; intro v' w3 hown3 hgrow _; have hb3 := (a_1 HI.out.bel s_ HAL.out).grown hgrow (by have := HI.out.bel.size; simp at this; simp; omega) (fun j hj => (HI.out.own.lt j hj).1); obtain ⟨A3, c3, rfl⟩ := a_j hown3)
           exact o_x
          ·obtain rfl : k = d.snps.length := by omega
           rw [List.take_of_length_le o_] at HI; obtain ⟨A5, c5, HI5, eA5⟩ : ∃ (A9 : Option Addr) (c9 : Nat), Hid (NmI d ⟨⟨zA, zC⟩, ⟨sA, sC⟩, ⟨mA, mC⟩, ⟨dA, dC⟩, ⟨nA, nC⟩, ⟨cA, cC⟩⟩ w wr A9 c9 ((d.zones.map Zon.name ++ d.srcs.map Srx.name ++ d.macs.map Mac.name ++ d.mdls.map Mdl.name) ++ (d.snps.map Snp.name))) ∧ Value.slice A' ((d.zones.map Zon.name ++ d.srcs.map Srx.name ++ d.macs.map Mac.name ++ d.mdls.map Mdl.name) ++ (d.snps.map Snp.name).take d.snps.length).length c' = .slice A9 ((d.zones.map Zon.name ++ d.srcs.map Srx.name ++ d.macs.map Mac.name ++ d.mdls.map Mdl.name) ++ (d.snps.map Snp.name)).length c9 := ⟨A', c', HI, by rw [List.take_of_length_le o_]⟩; rw [eA5]; clear HI eA5 HSnp; obtain ⟨f0, f1, f2, f3, f4, f5, hlw⟩ := a_R HI5.out.bel
           dsimp only [slV] at f0 f1 f2 f3 f4 f5
           go_wp2
           go_loopw [3, 84] (fun sv i wr => ∃ (k : Nat) (A' : Option Addr) (c' : Nat), k ≤ d.chks.length ∧ i = .int .i64 k ∧ sv = .slice A' ((d.zones.map Zon.name ++ d.srcs.map Srx.name ++ d.macs.map Mac.name ++ d.mdls.map Mdl.name ++ d.snps.map Snp.name) ++ (d.chks.map Chk.name).take k).length c' ∧ Hid (NmI d ⟨⟨zA, zC⟩, ⟨sA, sC⟩, ⟨mA, mC⟩, ⟨dA, dC⟩, ⟨nA, nC⟩, ⟨cA, cC⟩⟩ w wr A' c' ((d.zones.map Zon.name ++ d.srcs.map Srx.name ++ d.macs.map Mac.name ++ d.mdls.map Mdl.name ++ d.snps.map Snp.name) ++ (d.chks.map Chk.name).take k))) (fun _ i _ => d.chks.length - (intOf i).toNat)
           case atStart => exact ⟨0, A5, c5, o_, rfl, s_, by rw [List.take_zero, List.append_nil]; exact HI5⟩
           case round =>
            obtain ⟨k, A', c', hk, rfl, rfl, HI⟩ := hrel; have hbel := a_5 HI.out.bel
            by_cases hlt : k < d.chks.length
            ·rcases HChk.out with e | ⟨g, off, hA, hg, hc⟩
             ·exact absurd hlt e_
             refine o_J ?_; intro vs hC hcs hcw; have hk2 : k < (d.chks.map Chk.name).length := by omega
             have HTk := a_2 (show (d.zones.map Zon.name ++ d.srcs.map Srx.name ++ d.macs.map Mac.name ++ d.mdls.map Mdl.name ++ d.snps.map Snp.name) ++ (d.chks.map Chk.name).take (k + 1) = ((d.zones.map Zon.name ++ d.srcs.map Srx.name ++ d.macs.map Mac.name ++ d.mdls.map Mdl.name ++ d.snps.map Snp.name) ++ (d.chks.map Chk.name).take k) ++ [(d.chks[k]).name] from by rw [List.take_succ_eq_append_getElem hk2, List.getElem_map]; simp only [List.append_assoc])
             have hvs : ∃ (t1 : a_3) (i2 : Int) (S3 : Option Addr) (m3 c3 : Nat) (t4 : a_3) (S5 : Option Addr) (m5 c5 : Nat) (i6 : Int) (i7 : Int) (S8 : Option Addr) (m8 c8 : Nat) (i9 : Int) (i10 : Int) (i11 : Int) (i12 : Int) (i13 : Int), vs = [str (d.chks[k]).name, str t1, .int .i64 i2, .slice S3 m3 c3, str t4, .slice S5 m5 c5, .int .i64 i6, .int .i64 i7, .slice S8 m8 c8, .int .i64 i9, .int .i64 i10, .int .i64 i11, .int .i64 i12, .int .i64 i13] := by
              obtain ⟨a', b, c, h1, h2, h3, rfl⟩ := hC; exact q_Q
             obtain ⟨t1, i2, S3, m3, c3, t4, S5, m5, c5, i6, i7, S8, m8, c8, i9, i10, i11, i12, i13, rfl⟩ := hvs; clear hC hc hcs; have e0 : wr.cell? ⟨g, off + k * 14, none⟩ = some (str (d.chks[k]).name) := by simpa using hcw 0 s_
             refine _ab ?_; intro e1 e2 e3 e4 e5 e6 e7 e8 e9 e10 e11 e12 e13; clear hcw; subst hA; have hlen : ((d.zones.map Zon.name ++ d.srcs.map Srx.name ++ d.macs.map Mac.name ++ d.mdls.map Mdl.name ++ d.snps.map Snp.name) ++ (d.chks.map Chk.name).take k).length ≤ 400 := by simp; omega
             generalize (d.chks[k]).name = s at *; generalize (d.zones.map Zon.name ++ d.srcs.map Srx.name ++ d.macs.map Mac.name ++ d.mdls.map Mdl.name ++ d.snps.map Snp.name) ++ (d.chks.map Chk.name).take k = P at *; have hsz := hbel.size; have own1 := HI.out.own; have HAL := a_2 (show Below wr.heap.size wr ((wr.alloc (.cells #[str s, str t1, .int .i64 i2, .slice S3 m3 c3, str t4, .slice S5 m5 c5, .int .i64 i6, .int .i64 i7, .slice S8 m8 c8, .int .i64 i9, .int .i64 i10, .int .i64 i11, .int .i64 i12, .int .i64 i13] 67)).alloc (.cells #[str s] 9)) from zX)
             go_wp2_with (at_builtin; refine wpList_append_own _ rfl _ _ 26 rfl (w.heap.size + 1) 9 i0 _ 1 16 underlying26 hi hz0 hz1 hz2 rfl d_ _ _ _ rfl (a_g own1 zX) ⟨wr.heap.size + 1, 0, none⟩ 1 1 [str s] rfl rfl (by exact b_3 (a_M _ _ _ s_)) c_ x_ o_ m_ ?_; intro v' w3 hown3 hgrow _; have hb3 := (a_1 HI.out.bel s_ HAL.out).grown hgrow (by have := HI.out.bel.size; simp at this; simp; omega) (fun j hj => (HI.out.own.lt j hj).1); obtain ⟨A3, c3, rfl⟩ := a_j hown3)
             exact o_x
            ·obtain rfl : k = d.chks.length := by omega
             rw [List.take_of_length_le o_] at HI; obtain ⟨A6, c6, HI6, eA6⟩ : ∃ (A9 : Option Addr) (c9 : Nat), Hid (NmI d ⟨⟨zA, zC⟩, ⟨sA, sC⟩, ⟨mA, mC⟩, ⟨dA, dC⟩, ⟨nA, nC⟩, ⟨cA, cC⟩⟩ w wr A9 c9 ((d.zones.map Zon.name ++ d.srcs.map Srx.name ++ d.macs.map Mac.name ++ d.mdls.map Mdl.name ++ d.snps.map Snp.name) ++ (d.chks.map Chk.name))) ∧ Value.slice A' ((d.zones.map Zon.name ++ d.srcs.map Srx.name ++ d.macs.map Mac.name ++ d.mdls.map Mdl.name ++ d.snps.map Snp.name) ++ (d.chks.map Chk.name).take d.chks.length).length c' = .slice A9 ((d.zones.map Zon.name ++ d.srcs.map Srx.name ++ d.macs.map Mac.name ++ d.mdls.map Mdl.name ++ d.snps.map Snp.name) ++ (d.chks.map Chk.name)).length c9 := ⟨A', c', HI, by rw [List.take_of_length_le o_]⟩; rw [eA6]; clear HI eA6 HChk; have hlen : ((d.zones.map Zon.name ++ d.srcs.map Srx.name ++ d.macs.map Mac.name ++ d.mdls.map Mdl.name ++ d.snps.map Snp.name) ++ (d.chks.map Chk.name)).length ≤ 400 := by simp; omega
             have HSt := a_2 (a_W HI6.out.own); have hfin := a_5 HI6.out.bel; rw [show (d.zones.map Zon.name ++ d.srcs.map Srx.name ++ d.macs.map Mac.name ++ d.mdls.map Mdl.name ++ d.snps.map Snp.name) ++ (d.chks.map Chk.name) = d.names from by rw [HE.out]; simp only [List.nil_append, List.append_assoc]] at HSt hlen ⊢; have HCf := a_2 (HC.out _ c6 _ _ o_ HSt.out)
             go_wp2_with (go_at_call 86; refine (HCf.out).mono ?_; rintro e w9 ⟨rfl, hb9⟩)
             go_ret
             exact ⟨rfl, a_9 hb9 hfin⟩
set_option maxRecDepth 512
theorem p_j {w : World} {m : Mdu} {vs : List Value} (h : f_g w m vs) : ∃ v1 v2 v3 v4 v5 v6 v7, vs = [str m.name, v1, v2, v3, v4, v5, v6, v7] := by
 obtain ⟨u, a, _, _, rfl⟩ := h
 exact ⟨_, _, _, _, _, _, _, rfl⟩
theorem o_Y {w : World} {A : Option Addr} {ms : List Mdu} (h : c_b w A ms) : ∃ V : Nat → Value, (∀ W, Below w.heap.size w W → ∀ k, k ≤ ms.length → n_J W A k V) ∧ ∀ i (hi : i < ms.length), ∃ v1 v2 v3 v4 v5 v6 v7, V i = .agg #[str ms[i].name, v1, v2, v3, v4, v5, v6, v7] := by
 rcases h with rfl | ⟨g, off, hA, hg, hc⟩
 ·exact ⟨fun _ => undef, fun W _ k hk => .inl (by simpa using hk), fun i hi => absurd hi s_⟩
 ·have one : ∀ i : Nat, ∃ v : Value, ∀ hi : i < ms.length, ∃ v1 v2 v3 v4 v5 v6 v7, v = .agg #[str ms[i].name, v1, v2, v3, v4, v5, v6, v7] ∧ o_0 w g (off + i * 8) [str ms[i].name, v1, v2, v3, v4, v5, v6, v7] := fun i => by
   by_cases hi : i < ms.length
   ·obtain ⟨vs, h1, h2⟩ := hc i hi
    obtain ⟨v1, v2, v3, v4, v5, v6, v7, rfl⟩ := p_j h1; exact ⟨.agg #[str ms[i].name, v1, v2, v3, v4, v5, v6, v7], fun _ => ⟨_, _, _, _, _, _, _, rfl, h2⟩⟩
   ·exact ⟨undef, fun h => absurd h hi⟩
  obtain ⟨V, hV⟩ := Classical.axiomOfChoice one
  refine ⟨V, fun W hb k hk => .inr ⟨g, off, hA, fun i hi => ?_⟩, fun i hi => ?_⟩
  ·obtain ⟨v1, v2, v3, v4, v5, v6, v7, e, h2⟩ := hV i o_
   have h3 := h2.below hg hb; exact ⟨_, _, _, _, _, _, _, _, e, by simpa using h3 0 s_, h3 1 s_, h3 2 s_, h3 3 s_, h3 4 s_, h3 5 s_, h3 6 s_, h3 7 s_⟩
  ·obtain ⟨v1, v2, v3, v4, v5, v6, v7, e, _⟩ := hV i hi
   exact ⟨_, _, _, _, _, _, _, e⟩
theorem k_s (b : Nat) (n s : a_3) (v1 v2 v3 v4 v5 v6 v7 : Value) (w : World) (hb : b < w.heap.size) (hc : w.cell? ⟨b, 0, none⟩ = some (str s)) :
  Calls prog 84 #[.agg #[str n, v1, v2, v3, v4, v5, v6, v7], a_f b] w fun e w' => e = .returned (.bool (n == s)) ∧ Below w.heap.size w w' := by
 have c1 : (w.alloc (.cells #[str n, v1, v2, v3, v4, v5, v6, v7] 36)).cell? ⟨b, 0, none⟩ = some (str s) := by
  exact q_3
 go_enter func84, ntmps84
 go_wp2
 exact k_t
theorem m_f (b : Nat) (n s : a_3) (v1 v2 v3 v4 v5 v6 v7 : Value) (w : World) (hb : b < w.heap.size) (hc : w.cell? ⟨b, 0, none⟩ = some (str s)) :
  Calls prog 26 #[.agg #[str n, v1, v2, v3, v4, v5, v6, v7], a_f b] w fun e w' => e = .returned (.bool (n == s)) ∧ Below w.heap.size w w' := by
 have c1 : (w.alloc (.cells #[str n, v1, v2, v3, v4, v5, v6, v7] 36)).cell? ⟨b, 0, none⟩ = some (str s) := by
  exact q_3
 go_enter func26, ntmps26
 go_wp2
 exact k_t
def mnP (ms : List Mdu) (s : a_3) (i : Nat) : Bool := match ms[i]? with
 | some m => m.name == s
 | none => false
theorem l_8 {ms : List Mdu} {s : a_3} {i : Nat} (h : i < ms.length) : mnP ms s i = (ms[i].name == s) := by
 unfold mnP; rw [List.getElem?_eq_getElem h]
theorem o_3 (ms : List Mdu) (s : a_3) (k : Nat) (hk : k ≤ ms.length) : f_8 (mnP ms s) k = decide (s ∈ (c_9 ms).take k) := by
 rw [Bool.eq_iff_iff, decide_eq_true_eq]
 unfold f_8 c_9
 rw [List.any_eq_true, List.mem_iff_getElem]
 constructor
 ·rintro ⟨i, hi, h⟩
  have hi' := List.mem_range.1 hi
  rw [l_8 o_] at h
  exact ⟨i, m_, by simpa using h⟩
 ·rintro ⟨i, hi, h⟩
  have hi' : i < k := by simp at hi; omega
  exact ⟨i, List.mem_range.2 hi', by rw [l_8 o_]; simpa using h⟩
theorem l_l (A : Option Addr) (ms : List Mdu) (c k f b : Nat) (s : a_3) (w : World) (hM : c_b w A ms) (hk : k ≤ ms.length) (hl : ms.length ≤ 8796093022208) (hb : b < w.heap.size) (hc : w.cell? ⟨b, 0, none⟩ = some (str s))
  (eg : ∀ args W, (callFunc f args).run prog W = .ok (.enter f args) W)
  (hf : ∀ (n : a_3) (v1 v2 v3 v4 v5 v6 v7 : Value) (W : World), b < W.heap.size → W.cell? ⟨b, 0, none⟩ = some (str s) → Calls prog f #[.agg #[str n, v1, v2, v3, v4, v5, v6, v7], a_f b] W fun e w' => e = .returned (.bool (n == s)) ∧ Below W.heap.size W w') :
  Calls prog 25 #[.slice A k c, .func (.func f) #[] #[a_f b]] w fun e w' => e = .returned (.bool (decide (s ∈ (c_9 ms).take k))) ∧ Below w.heap.size w w' := by
 obtain ⟨V, hV1, hV2⟩ := o_Y hM
 have h := i_W A c k f #[a_f b] V (mnP ms s) w o_ (fun W hW => hV1 W hW k hk) eg (fun i hi W hW => by
  obtain ⟨v1, v2, v3, v4, v5, v6, v7, e⟩ := hV2 i o_
  rw [e, l_8 o_]
  exact hf _ _ _ _ _ _ _ _ W (Nat.lt_of_lt_of_le hb hW.size) ((hW.cell (p := ⟨b, 0, none⟩) hb).trans hc))
 rw [o_3 ms s k hk] at h
 exact h
theorem l_D {all : List a_3} {nm : a_3} {us : List a_3} {k : Nat} (h : k < us.length) : l_K all nm us k = if us[k] ∈ all then a_b (us[k] = nm ∨ us[k] ∈ us.take k) 6 else 5 := by
 unfold l_K; rw [List.getD_eq_getElem?_getD, List.getElem?_eq_getElem h]; rfl
set_option maxRecDepth 100000
theorem f_X (m : Mdu) (u : Pl) (a : DAdr) (A : Option Addr) (ms : List Mdu) (c : Nat) (w : World) (hu : b_9 w u m.uses) (hM : c_b w A ms) (hl : ms.length ≤ 8796093022208) (hul : m.uses.length ≤ 8796093022208) :
  Calls prog 28 #[.agg #[str m.name, slV u m.uses.length, slV a.z m.defs.zones.length, slV a.s m.defs.srcs.length, slV a.m m.defs.macs.length, slV a.d m.defs.mdls.length, slV a.n m.defs.snps.length, slV a.c m.defs.chks.length], .slice A ms.length c] w fun e w' => e = .returned (.int .i64 (e_B (c_9 ms) m)) ∧ Below w.heap.size w w' := by
 have hbox : Below (w.heap.size + 1) (w.alloc (.cells #[str m.name, slV u m.uses.length, slV a.z m.defs.zones.length, slV a.s m.defs.srcs.length, slV a.m m.defs.macs.length, slV a.d m.defs.mdls.length, slV a.n m.defs.snps.length, slV a.c m.defs.chks.length] 36)) (w.alloc (.cells #[str m.name, slV u m.uses.length, slV a.z m.defs.zones.length, slV a.s m.defs.srcs.length, slV a.m m.defs.macs.length, slV a.d m.defs.mdls.length, slV a.n m.defs.snps.length, slV a.c m.defs.chks.length] 36)) := b_ _ _
 have HA := a_2 hu
 have HM := a_2 hM
 obtain ⟨uA, uC⟩ := u
 dsimp only [slV] at *
 clear hu hM
 by_cases h16 : 16 < m.uses.length
 ·have HE := a_2 (show e_B (c_9 ms) m = 2 from by unfold e_B; rw [if_pos h16])
  generalize m.defs.zones.length = y0 at *
  go_enter func28, ntmps28
  go_wp2
  exact n_j
 have HE := a_2 (show e_B (c_9 ms) m = a_o (l_K (c_9 ms) m.name m.uses) m.uses.length from by unfold e_B; rw [if_neg h16])
 generalize e_B (c_9 ms) m = r at *
 have HT := a_2 (fun (s : a_3) (b : Nat) (W : World) (hb : Below w.heap.size w W) (hbb : b < W.heap.size) (hc : W.cell? ⟨b, 0, none⟩ = some (str s)) => by
  have h := l_l A ms c ms.length 84 b s W (a_l.below f_g.kept HM.out hb) (l_ _) hl hbb hc (fun args V => by kernel_rfl) (fun n v1 v2 v3 v4 v5 v6 v7 V h1 h2 => k_s b n s v1 v2 v3 v4 v5 v6 v7 V h1 h2)
  rw [List.take_of_length_le (by unfold c_9; simp)] at h
  exact h)
 obtain ⟨nm, us, ds⟩ := m
 simp only at HE HA h16 hul hbox
 show Calls prog 28 #[.agg #[str nm, .slice uA us.length uC, .slice a.z.1 ds.zones.length a.z.2, .slice a.s.1 ds.srcs.length a.s.2, .slice a.m.1 ds.macs.length a.m.2, .slice a.d.1 ds.mdls.length a.d.2, .slice a.n.1 ds.snps.length a.n.2, .slice a.c.1 ds.chks.length a.c.2], .slice A ms.length c] w _
 generalize c_9 ms = all at *
 clear HM
 go_enter func28, ntmps28
 go_wp2
 go_loopw [14] (fun i wr => ∃ k : Nat, k ≤ us.length ∧ i = .int .i64 k ∧ Hid (∀ j, j < k → l_K all nm us j = 0) ∧ Below (w.heap.size + 1) (w.alloc (.cells #[str nm, .slice uA us.length uC, .slice a.z.1 ds.zones.length a.z.2, .slice a.s.1 ds.srcs.length a.s.2, .slice a.m.1 ds.macs.length a.m.2, .slice a.d.1 ds.mdls.length a.d.2, .slice a.n.1 ds.snps.length a.n.2, .slice a.c.1 ds.chks.length a.c.2] 36)) wr) (fun i _ => us.length - (intOf i).toNat)
 case atStart => exact ⟨0, o_, rfl, fun j hj => absurd hj (Nat.not_lt_zero _), hbox⟩
 case round =>
  obtain ⟨k, hk, rfl, HZ, hbx⟩ := hrel
  have hbel := a_5 hbx
  by_cases hlt : k < us.length
  ·rcases HA.out.1.below hbel with e | ⟨g, off, hA, hg, hc⟩
   ·exact absurd hlt e_
   obtain rfl : uA = some ⟨g, off, none⟩ := hA; have huc : us.length ≤ uC := HA.out.2; have c0 := hc k hlt; obtain ⟨f0, f1, f2, f3, f4, f5, f6, f7, hlw⟩ := bx8 hbx; have HUs := a_2 (l_D (all := all) (nm := nm) hlt); have HF := a_2 (fun x (e : l_K all nm us k = x) (hx : x ≠ 0) => (HE.out.trans (a_q HZ.out (by rw [e]; exact hx) hlt)).trans e); have HN := a_2 (fun (e : l_K all nm us k = 0) => a_T HZ.out e)
   have HD := a_2 (fun W (hb : Below wr.heap.size wr W) => by
    have := b_k (some ⟨g, off, none⟩) (us.take k) uC us[k] W ((b_F hg hc k).below hb) (by rw [List.length_take]; omega); rw [List.length_take, Nat.min_eq_left (Nat.le_of_lt hlt)] at this
    exact this)
   have hkc : k ≤ uC := by omega
   clear hc f2 f3 f4 f5 f6 f7; generalize us[k] = s at *; have hal : Below wr.heap.size wr (wr.alloc (.cells #[str s] 9)) := zX; have HTs := a_2 (HT.out s wr.heap.size (wr.alloc (.cells #[str s] 9)) (a_9 hal hbel) s_ (by simp [go_sem]))
   have HSx := a_2 (fun W (hb : Below (wr.heap.size + 1) (wr.alloc (.cells #[str s] 9)) W) => show W.cell? ⟨wr.heap.size, 0, none⟩ = some (str s) ∧ W.cell? ⟨w.heap.size, 0, none⟩ = some (str nm) ∧ W.cell? ⟨w.heap.size, 1, none⟩ = some (.slice (some ⟨g, off, none⟩) us.length uC) from
    ⟨a_0 (a_y hb (Nat.lt_succ_self _)) 0, ((a_5 hb).cell (p := ⟨w.heap.size, 0, none⟩) hlw).trans f0, ((a_5 hb).cell (p := ⟨w.heap.size, 1, none⟩) hlw).trans f1⟩)
   have hbs : Below (wr.heap.size + 1) (wr.alloc (.cells #[str s] 9)) (wr.alloc (.cells #[str s] 9)) := b_ _ _; clear HT f0 f1
   by_cases hin : s ∈ all
   rotate_left
   ·have HR := a_2 (HF.out 5 (by rw [HUs.out, if_neg hin]) d_)
    have hb : decide (s ∈ all) = false := by simpa using hin
    rw [hb] at HTs; clear HUs HF HN hin hb
    go_wp2_with (go_at_call 25; refine (HTs.out).mono ?_; rintro e w1 ⟨rfl, hb1⟩)
    go_ret
    exact ⟨a_d HR.out.symm, a_9 (a_9 hb1 hal) hbel⟩
   rw [if_pos hin] at HUs; have hb : decide (s ∈ all) = true := by simpa using hin
   rw [hb] at HTs
   have hd : decide (s ∈ us.take k) = true ∨ (decide (s ∈ us.take k) = false ∧ s = nm) ∨ (decide (s ∈ us.take k) = false ∧ s ≠ nm) := by
    cases decide (s ∈ us.take k)
    ·by_cases e : s = nm
     ·exact .inr (.inl ⟨rfl, e⟩)
     ·exact .inr (.inr ⟨rfl, e⟩)
    ·exact .inl rfl
   clear hin hb
   rcases hd with hd | ⟨hd, rfl⟩ | ⟨hd, hne⟩
   ·have HR := a_2 (HF.out 6 (by rw [HUs.out]; exact a_k (.inr (by simpa using hd))) d_)
    rw [hd] at HD; clear hd; clear HUs HF HN
    go_wp2_with (go_at_call 25; refine (HTs.out).mono ?_; rintro e w1 ⟨rfl, hb1⟩; have hx1 := a_1 hbs s_ hb1; obtain ⟨q0, q1, q2⟩ := HSx.out _ hx1)
    refine r_a ?_; intro hr1 kk HS; refine wp_region_held_drew (S := (fun w' => w'.cell? ⟨wr.heap.size, 0, none⟩ = some (str s) ∧ w'.cell? ⟨w.heap.size, 0, none⟩ = some (str nm) ∧ w'.cell? ⟨w.heap.size, 1, none⟩ = some (.slice (some ⟨g, off, none⟩) us.length uC))) k_ (by (try dsimp only); exact HS.out _ kk) (fun hHeld => ?_); generalize w1.drew = W0 at *; refine zT 0 ?_; refine zT 1 ?_; refine zT 2 ?_; refine zT 3 ?_; refine zT 4 ?_; refine zR 5 (fun K hK => ?_)
    go_simp
    go_wp2_with (go_at_call 85; refine (HD.out _ (a_9 kk hr1)).mono ?_; rintro e w' ⟨rfl, rfl⟩)
    refine zB hK (HS.out _ kk) (fun hHeld => ?_); clear hK K; refine zT 6 ?_; refine zK 7 ?_; refine zK 8 ?_; refine zK 9 ?_; refine zK 10 ?_; refine zT 11 ?_; refine wpAnyH_done k_ ?_ _; simp only [List.getElem_toArray, List.getElem_cons_succ, List.getElem_cons_zero, List.set_cons_zero, List.set_cons_succ]
    go_wp2
    go_ret
    exact ⟨a_d HR.out.symm, a_9 kk (a_9 hr1 hbel)⟩
   ·have HR := a_2 (HF.out 6 (by rw [HUs.out]; exact a_k (.inl rfl)) d_)
    rw [hd] at HD; clear hd; clear HUs HF HN
    go_wp2_with (go_at_call 25; refine (HTs.out).mono ?_; rintro e w1 ⟨rfl, hb1⟩; have hx1 := a_1 hbs s_ hb1; obtain ⟨q0, q1, q2⟩ := HSx.out _ hx1)
    refine r_a ?_; intro hr1 kk HS; refine wp_region_held_drew (S := (fun w' => w'.cell? ⟨wr.heap.size, 0, none⟩ = some (str s) ∧ w'.cell? ⟨w.heap.size, 0, none⟩ = some (str s) ∧ w'.cell? ⟨w.heap.size, 1, none⟩ = some (.slice (some ⟨g, off, none⟩) us.length uC))) k_ (by (try dsimp only); exact HS.out _ kk) (fun hHeld => ?_); generalize w1.drew = W0 at *; refine zT 0 ?_; refine zT 1 ?_; refine zT 2 ?_; refine zT 3 ?_; refine zT 4 ?_; refine zR 5 (fun K hK => ?_)
    go_simp
    go_wp2_with (go_at_call 85; refine (HD.out _ (a_9 kk hr1)).mono ?_; rintro e w' ⟨rfl, rfl⟩)
    refine zB hK (HS.out _ kk) (fun hHeld => ?_); clear hK K; refine zT 6 ?_; refine zT 7 ?_; refine zT 8 ?_; refine zT 9 ?_; refine zT 10 ?_; refine zT 11 ?_; refine wpAnyH_done k_ ?_ _; simp only [List.getElem_toArray, List.getElem_cons_succ, List.getElem_cons_zero, List.set_cons_zero, List.set_cons_succ]
    go_wp2
    go_ret
    exact ⟨a_d HR.out.symm, a_9 kk (a_9 hr1 hbel)⟩
   ·have HR := a_2 (HN.out (by rw [HUs.out]; exact a_G (by simp at hd; simp [hd, hne])))
    have hneb : (s == nm) = false := beq_eq_false_iff_ne.2 hne; rw [hd] at HD; clear hd hne; clear HUs HF HN
    go_wp2_with (go_at_call 25; refine (HTs.out).mono ?_; rintro e w1 ⟨rfl, hb1⟩; have hx1 := a_1 hbs s_ hb1; obtain ⟨q0, q1, q2⟩ := HSx.out _ hx1)
    refine r_a ?_; intro hr1 kk HS; refine wp_region_held_drew (S := (fun w' => w'.cell? ⟨wr.heap.size, 0, none⟩ = some (str s) ∧ w'.cell? ⟨w.heap.size, 0, none⟩ = some (str nm) ∧ w'.cell? ⟨w.heap.size, 1, none⟩ = some (.slice (some ⟨g, off, none⟩) us.length uC))) k_ (by (try dsimp only); exact HS.out _ kk) (fun hHeld => ?_); generalize w1.drew = W0 at *; refine zT 0 ?_; refine zT 1 ?_; refine zT 2 ?_; refine zT 3 ?_; refine zT 4 ?_; refine zR 5 (fun K hK => ?_)
    go_simp
    go_wp2_with (go_at_call 85; refine (HD.out _ (a_9 kk hr1)).mono ?_; rintro e w' ⟨rfl, rfl⟩)
    refine zB hK (HS.out _ kk) (fun hHeld => ?_); clear hK K; refine zT 6 ?_; refine zT 7 ?_; refine zT 8 ?_; refine zT 9 ?_; refine zT 10 ?_; refine zT 11 ?_; refine wpAnyH_done k_ ?_ _; simp only [List.getElem_toArray, List.getElem_cons_succ, List.getElem_cons_zero, List.set_cons_zero, List.set_cons_succ]
    go_wp2
    exact ⟨⟨k + 1, o_, t_, HR, a_1 hbx s_ (a_9 kk hr1)⟩, w_⟩
  ·obtain rfl : k = us.length := by omega
   refine i_2 ?_; intro HR
   go_wp2
   exact i_N
end Go.Proofs.YtnpjibaolicbmaaGreatDoor
