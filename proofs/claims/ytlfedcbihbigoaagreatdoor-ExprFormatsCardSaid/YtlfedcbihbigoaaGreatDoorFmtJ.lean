/- Contract: Format (expr). -/
import Derived.Test.YtlfedcbihbigoaaGreatDoorFmtPR
import Derived.Test.YtlfedcbihbigoaaGreatDoorFmtI
set_option linter.unusedVariables false
set_option linter.unusedSimpArgs false
namespace Go.Proofs.YtlfedcbihbigoaaGreatDoor
open Go.RowKit
theorem Tryz.info_piece : (Tryz.prog.info? 75).map (fun i => (i.zero, i.size, i.bytes)) = some (some (.agg #[.string ⟨#[]⟩, .int .i64 0, .bool false]), 3, 32) := by kernel_rfl
theorem own_take3 {w : World} {base e c n r : Nat} {A : Option Addr} {xs : List Value} (h : w.ownsRow base e 3 (.slice A n c) n xs) (hr : r ≤ n) : w.ownsRow base e 3 (.slice A r c) r (xs.take (r * 3)) := by
  refine ⟨by rw [List.length_take, h.1]; omega, ?_⟩
  rcases h.2 with ⟨hv, hn⟩ | ⟨g, cap, cur, hv, hg, hh, hnc, hcap, hsz, htk⟩
  · injection hv with h1 h2 h3
    subst h1 h3
    left
    have : r = 0 := by omega
    subst this
    exact ⟨rfl, rfl⟩
  · injection hv with h1 h2 h3
    subst h1 h3
    right
    refine ⟨g, c, cur, rfl, hg, hh, by omega, hcap, hsz, ?_⟩
    rw [← htk, List.take_take]
    congr 1; omega
set_option maxRecDepth 100000 in
set_option maxHeartbeats 8000000 in
theorem expr_Format_any (A : Option Addr) (es : List Nd) (c : Nat) (w : World) (hG : GlobJ w) (hE : NdsAt w A es) (hle : es.length ≤ 1000000) (hx : NamesOk es) :
    Calls Tryz.prog 18 #[.slice A es.length c] w fun e w' => e = .returned (.tuple #[str (fmtR es).1, .int .i64 (fmtR es).2]) ∧ Below w.heap.size w w' := by
  have HE := hide hE
  have HG := hide hG
  have HV := hide (expr_Validate_any A es c w hG.glob.words hE hle hx)
  clear hE hx hG
  obtain ⟨i0, hi, hz0, hz1, hz2⟩ := info_parts Tryz.info_piece
  by_cases h8 : validE es = 0
  rotate_left
  · have HF := hide (fmtR_bad h8)
    have hne : (validE es != 0) = true := by simpa using h8
    clear h8
    generalize validE es = x at *
    go_enter Tryz.func18, Tryz.ntmps18
    go_wp2_with (go_at_call 30; refine (HV.out).mono ?_; rintro e w1 ⟨rfl, hb1⟩)
    go_ret2
    exact ⟨by rw [HF.out]; rfl, hb1⟩
  rw [h8] at HV
  have hle2 := valid_le h8
  have H8 := hide h8
  clear h8
  go_enter Tryz.func18, Tryz.ntmps18
  go_wp2_with (go_at_call 30; refine (HV.out).mono ?_; rintro e w1 ⟨rfl, hb1⟩)
  go_loopw [5, 16] (fun s i wr => ∃ (k n : Nat) (ps : List Pc) (A' : Option Addr) (c' : Nat), s = .slice A' n c' ∧ i = .int .i64 k ∧ k ≤ es.length ∧ Hid (FRel es k n ps) ∧
      wr.ownsRow w.heap.size 75 3 (.slice A' n c') n (pcCells ps) ∧ Below w.heap.size w wr) (fun _ i _ => es.length - (intOf i).toNat)
  case atStart => exact ⟨0, 0, [], none, 0, rfl, rfl, by omega, hide (frel_start es), own_nil _ _ _ _, hb1⟩
  case round =>
    clear hb1
    obtain ⟨k, n, ps, A', c', rfl, rfl, hk, HR, hown, hbel⟩ := hrel
    have hsz := hbel.size
    by_cases hlt2 : k < es.length
    · obtain ⟨a, ha, ha8, han, hok, hdl, hsl, hwl, hst⟩ := frel_step H8.out hlt2 HR.out
      have hpl := HR.out.len
      have hn256 : n ≤ 256 := by
        obtain ⟨st, h1, h2⟩ := HR.out.ht
        have := (h1.facts hk).2; omega
      have HST := hide hst
      have HOk := hide hok
      clear hst hok
      rcases HE.out.below hbel with e | ⟨g, off, rfl, hg, hc⟩
      · exact absurd hlt2 (by rw [e]; simp)
      obtain ⟨n0, n1, n2, n3, n4, n5⟩ := nd_of_cells (w := wr) (g := g) (off := off) (es := es) hc k hlt2
      have HAr := hide (fun W => expr_Arity_any es[k].op es[k].val.kind es[k].val.num es[k].arity ⟨es[k].val.text.toArray⟩ ⟨es[k].name.toArray⟩ W)
      have ha1 : arityN es[k].op es[k].arity = (a : Int) := ha
      clear hc
      obtain ⟨nd, hn⟩ : ∃ nd, nd = es[k] := ⟨_, rfl⟩
      rw [← hn] at n0 n1 n2 n3 n4 n5 HAr ha1 HST HOk hdl hwl
      clear hn ha
      have HA1 := hide (fun W => by have := HAr.out W; rw [ha1] at this; exact this)
      obtain ⟨r, hr⟩ : ∃ r, r = n - a := ⟨_, rfl⟩
      have hr2 : n = r + a := by omega
      have hsub : (n : Int) - (a : Int) = (r : Int) := by omega
      rw [← hr] at HST hdl hsl hwl
      have hda : (ps.drop r).length = a := by rw [List.length_drop]; omega
      have HWr := hide (fun X xc W (hG : Below w.heap.size w W) (hX : PcsAt W X (ps.drop r)) => (show Calls Tryz.prog 36 #[nd.agg, .slice X a xc] W (fun e w' => e = .returned (writeS nd (ps.drop r)).agg ∧ Below W.heap.size W w') from by
        have := expr_write_any nd (ps.drop r) X xc W (HG.out.below hG) HOk.out hdl hX (by omega)
        rw [hda] at this; exact this))
      have hcap := own_cap hown
      have HO := hide hown
      have HPush := hide (pc_push ps r (writeS nd (ps.drop r)))
      generalize writeS nd (ps.drop r) = res at *
      obtain ⟨rx, rl, rn⟩ := res
      simp only at hwl
      have hcur := Below.refl (wr.heap.size + 1) (wr.alloc (ndBox nd.op nd.val.kind nd.val.num ⟨nd.val.text.toArray⟩ ⟨nd.name.toArray⟩ nd.arity))
      clear hr ha1 hown hdl hsl
      go_wp2_with (go_at_call 35; refine (HA1.out _).mono ?_; rintro e w1 ⟨rfl, hb1⟩; have hcur := below_go hcur (by simp) hb1; obtain ⟨k0, k1, k2, k3, k4, k5, k6⟩ := box6 hcur; clear hb1)
      subst hr2
      have hb1 := box_below hcur
      have hbw1 := bel2 hb1 hbel
      have hs1 := hb1.size
      have HTo := hide (own_below (own_take3 (r := r) HO.out (by omega)) hb1)
      have hKn : PcsAt w1 (if c' = r then A' else A'.map (·.add (r * 3))) (ps.drop r) := (pc_own HO.out hpl (by omega)).below hb1
      have HNb := hide (show ∀ w', Below w1.heap.size w1 w' → (w'.cell? ⟨wr.heap.size, 0, none⟩ = some (.int .i64 nd.op) ∧ w'.cell? ⟨wr.heap.size, 1, none⟩ = some (.int .i64 nd.val.kind) ∧ w'.cell? ⟨wr.heap.size, 2, none⟩ = some (.int .i64 nd.val.num) ∧ w'.cell? ⟨wr.heap.size, 3, none⟩ = some (str nd.val.text) ∧ w'.cell? ⟨wr.heap.size, 4, none⟩ = some (str nd.name) ∧ w'.cell? ⟨wr.heap.size, 5, none⟩ = some (.int .i64 nd.arity)) from fun w' h => ⟨(h.cell (p := ⟨wr.heap.size, _, none⟩) k6).trans k0, (h.cell (p := ⟨wr.heap.size, _, none⟩) k6).trans k1, (h.cell (p := ⟨wr.heap.size, _, none⟩) k6).trans k2, (h.cell (p := ⟨wr.heap.size, _, none⟩) k6).trans k3, (h.cell (p := ⟨wr.heap.size, _, none⟩) k6).trans k4, (h.cell (p := ⟨wr.heap.size, _, none⟩) k6).trans k5⟩)
      have hag : ∀ o, some (⟨wr.heap.size, o, none⟩ : Addr).block ≠ (Value.slice A' r c').ownBlock := fun o e => by
        have h1 := HO.out.lt wr.heap.size (by
          have : (Value.slice A' (r + a) c').ownBlock = (Value.slice A' r c').ownBlock := by cases A' <;> rfl
          rw [this]; exact e.symm)
        omega
      have b0 : (0 : Int) ≤ (r : Int) := by omega
      have b1 : (r : Int) ≤ ((r + a : Nat) : Int) := by omega
      have b2 : (r : Int) ≤ (c' : Int) := by omega
      have b3 : (r : Int) ≤ (r : Int) + (a : Int) := by omega
      clear n0 n1 n2 n3 n4 n5 k0 k1 k2 k3 k4 k5 hcur
      rcases HO.out.2 with ⟨hv, hn0⟩ | ⟨gs, cap, cur, hv, hgs, hh, hnc, hcapm, hsz2, htk⟩
      · injection hv with h1 h2 h3
        subst h1 h3
        obtain rfl : r = 0 := by omega
        obtain rfl : a = 0 := by omega
        have hKn2 : PcsAt w1 none (ps.drop 0) := by
          rcases hKn with h | ⟨g1, o1, h, _⟩
          · exact .inl h
          · exfalso; revert h; split <;> simp
        clear hKn
        first | (go_region_held3 (fun w' => w'.cell? ⟨wr.heap.size, 0, none⟩ = some (.int .i64 nd.op) ∧ w'.cell? ⟨wr.heap.size, 1, none⟩ = some (.int .i64 nd.val.kind) ∧ w'.cell? ⟨wr.heap.size, 2, none⟩ = some (.int .i64 nd.val.num) ∧ w'.cell? ⟨wr.heap.size, 3, none⟩ = some (str nd.val.text) ∧ w'.cell? ⟨wr.heap.size, 4, none⟩ = some (str nd.name) ∧ w'.cell? ⟨wr.heap.size, 5, none⟩ = some (.int .i64 nd.arity))
          (first | (go_split_ands; refine ⟨?_, ?_, ?_, ?_, ?_, ?_⟩ <;> (refine g4.cell ?_ (hag 0); assumption)) | (go_split_ands; refine ⟨?_, ?_, ?_, ?_, ?_, ?_⟩ <;> (refine g4.cell ?_ (hag 0); go_simp)) | (refine HNb.out _ ?_; ((repeat (first | exact Below.refl _ _ | assumption | refine Below.drew ?_ | refine below_drewN ?_ _ | refine Below.alloc ?_ (by first | omega | (simp; done) | (simp; omega)) _ | refine Below.setCell ?_ (by first | omega | (simp; done) | (simp; omega)) _)); done)))
          ((first
            | (go_at_call 36; refine (HWr.out _ _ _ (by (repeat (first | exact Below.refl _ _ | assumption | refine Below.drew ?_ | refine below_drewN ?_ _ | refine Below.alloc ?_ (by first | omega | (simp; done) | (simp; omega)) _ | refine Below.setCell ?_ (by first | omega | (simp; done) | (simp; omega)) _))) (hKn2.below (by (repeat (first | exact Below.refl _ _ | assumption | refine Below.drew ?_ | refine below_drewN ?_ _ | refine Below.alloc ?_ (by first | omega | (simp; done) | (simp; omega)) _ | refine Below.setCell ?_ (by first | omega | (simp; done) | (simp; omega)) _))))).mono ?_; rintro e w3 ⟨rfl, hb3⟩; have hb4 : Below w1.heap.size w1 w3 := bel2 hb3 (by (repeat (first | exact Below.refl _ _ | assumption | refine Below.drew ?_ | refine below_drewN ?_ _ | refine Below.alloc ?_ (by first | omega | (simp; done) | (simp; omega)) _ | refine Below.setCell ?_ (by first | omega | (simp; done) | (simp; omega)) _))); have hz4 := hb4.size)
            | (refine step_own (by rfl) _ _ _ (by rfl) w.heap.size 75 i0 _ 3 32 Tryz.underlying73 hi hz0 hz1 hz2 rfl (by omega) _ _ _ (by rfl) (own_below HTo.out (by (repeat (first | exact Below.refl _ _ | assumption | refine Below.drew ?_ | refine below_drewN ?_ _ | refine Below.alloc ?_ (by first | omega | (simp; done) | (simp; omega)) _ | refine Below.setCell ?_ (by first | omega | (simp; done) | (simp; omega)) _)))) ⟨_, 0, none⟩ 1 1 [str rx, .int .i64 rl, .bool rn] (by rfl) rfl (by exact cells_3g (heap_new_at (by simp))) (by simp [Value.oneCell']) (by unfold maxLen; omega) (by omega) (by simp; omega) ?_; intro v4 w4 o4 g4)))) | fail
        all_goals
          obtain ⟨A3, c3, rfl⟩ := own_form o4
          have hb6 : Below w.heap.size w w4 := (show Below w.heap.size w _ from bel2 (by (repeat (first | exact Below.refl _ _ | assumption | refine Below.drew ?_ | refine below_drewN ?_ _ | refine Below.alloc ?_ (by first | omega | (simp; done) | (simp; omega)) _ | refine Below.setCell ?_ (by first | omega | (simp; done) | (simp; omega)) _))) hbw1).grown g4 (by simp; omega) (fun k hk => (HTo.out.lt k hk).1)
          have HFin := hide (And.intro HST.out (And.intro o4 HPush.out))
          clear o4 g4
          go_wp2
          exact ⟨⟨k + 1, _, _, A3, c3, rfl, by go_num, by omega, hide (by first | exact HFin.out.1 | (have := HFin.out.1; simpa using this)), by have := HFin.out.2.1; rw [HFin.out.2.2] at this; exact this, hb6⟩, by simp [intOf]; omega⟩
      · injection hv with h1 h2 h3
        subst h1 h3
        clear hh htk hsz2
        by_cases hcr : c' = r
        · subst hcr
          obtain rfl : a = 0 := by omega
          have hKn2 : PcsAt w1 (some ⟨gs, 0, none⟩) (ps.drop c') := by rw [if_pos rfl] at hKn; exact hKn
          clear hKn
          first | (go_region_held3 (fun w' => w'.cell? ⟨wr.heap.size, 0, none⟩ = some (.int .i64 nd.op) ∧ w'.cell? ⟨wr.heap.size, 1, none⟩ = some (.int .i64 nd.val.kind) ∧ w'.cell? ⟨wr.heap.size, 2, none⟩ = some (.int .i64 nd.val.num) ∧ w'.cell? ⟨wr.heap.size, 3, none⟩ = some (str nd.val.text) ∧ w'.cell? ⟨wr.heap.size, 4, none⟩ = some (str nd.name) ∧ w'.cell? ⟨wr.heap.size, 5, none⟩ = some (.int .i64 nd.arity))
            (first | (go_split_ands; refine ⟨?_, ?_, ?_, ?_, ?_, ?_⟩ <;> (refine g4.cell ?_ (hag 0); assumption)) | (go_split_ands; refine ⟨?_, ?_, ?_, ?_, ?_, ?_⟩ <;> (refine g4.cell ?_ (hag 0); go_simp)) | (refine HNb.out _ ?_; ((repeat (first | exact Below.refl _ _ | assumption | refine Below.drew ?_ | refine below_drewN ?_ _ | refine Below.alloc ?_ (by first | omega | (simp; done) | (simp; omega)) _ | refine Below.setCell ?_ (by first | omega | (simp; done) | (simp; omega)) _)); done)))
            ((first
              | (go_at_call 36; refine (HWr.out _ _ _ (by (repeat (first | exact Below.refl _ _ | assumption | refine Below.drew ?_ | refine below_drewN ?_ _ | refine Below.alloc ?_ (by first | omega | (simp; done) | (simp; omega)) _ | refine Below.setCell ?_ (by first | omega | (simp; done) | (simp; omega)) _))) (hKn2.below (by (repeat (first | exact Below.refl _ _ | assumption | refine Below.drew ?_ | refine below_drewN ?_ _ | refine Below.alloc ?_ (by first | omega | (simp; done) | (simp; omega)) _ | refine Below.setCell ?_ (by first | omega | (simp; done) | (simp; omega)) _))))).mono ?_; rintro e w3 ⟨rfl, hb3⟩; have hb4 : Below w1.heap.size w1 w3 := bel2 hb3 (by (repeat (first | exact Below.refl _ _ | assumption | refine Below.drew ?_ | refine below_drewN ?_ _ | refine Below.alloc ?_ (by first | omega | (simp; done) | (simp; omega)) _ | refine Below.setCell ?_ (by first | omega | (simp; done) | (simp; omega)) _))); have hz4 := hb4.size)
              | (refine step_own (by rfl) _ _ _ (by rfl) w.heap.size 75 i0 _ 3 32 Tryz.underlying73 hi hz0 hz1 hz2 rfl (by omega) _ _ _ (by rfl) (own_below HTo.out (by (repeat (first | exact Below.refl _ _ | assumption | refine Below.drew ?_ | refine below_drewN ?_ _ | refine Below.alloc ?_ (by first | omega | (simp; done) | (simp; omega)) _ | refine Below.setCell ?_ (by first | omega | (simp; done) | (simp; omega)) _)))) ⟨_, 0, none⟩ 1 1 [str rx, .int .i64 rl, .bool rn] (by rfl) rfl (by exact cells_3g (heap_new_at (by simp))) (by simp [Value.oneCell']) (by unfold maxLen; omega) (by omega) (by simp; omega) ?_; intro v4 w4 o4 g4)))) | fail
          all_goals
            obtain ⟨A3, c3, rfl⟩ := own_form o4
            have hb6 : Below w.heap.size w w4 := (show Below w.heap.size w _ from bel2 (by (repeat (first | exact Below.refl _ _ | assumption | refine Below.drew ?_ | refine below_drewN ?_ _ | refine Below.alloc ?_ (by first | omega | (simp; done) | (simp; omega)) _ | refine Below.setCell ?_ (by first | omega | (simp; done) | (simp; omega)) _))) hbw1).grown g4 (by simp; omega) (fun k hk => (HTo.out.lt k hk).1)
            have HFin := hide (And.intro HST.out (And.intro o4 HPush.out))
            clear o4 g4
            go_wp2
            exact ⟨⟨k + 1, _, _, A3, c3, rfl, by go_num, by omega, hide (by first | exact HFin.out.1 | (have := HFin.out.1; simpa using this)), by have := HFin.out.2.1; rw [HFin.out.2.2] at this; exact this, hb6⟩, by simp [intOf]; omega⟩
        · rw [if_neg hcr] at hKn
          have hKn2 : PcsAt w1 (some ⟨gs, r * 3, none⟩) (ps.drop r) := by simpa [Addr.add_lit] using hKn
          clear hKn
          first | (go_region_held3 (fun w' => w'.cell? ⟨wr.heap.size, 0, none⟩ = some (.int .i64 nd.op) ∧ w'.cell? ⟨wr.heap.size, 1, none⟩ = some (.int .i64 nd.val.kind) ∧ w'.cell? ⟨wr.heap.size, 2, none⟩ = some (.int .i64 nd.val.num) ∧ w'.cell? ⟨wr.heap.size, 3, none⟩ = some (str nd.val.text) ∧ w'.cell? ⟨wr.heap.size, 4, none⟩ = some (str nd.name) ∧ w'.cell? ⟨wr.heap.size, 5, none⟩ = some (.int .i64 nd.arity))
            (first | (go_split_ands; refine ⟨?_, ?_, ?_, ?_, ?_, ?_⟩ <;> (refine g4.cell ?_ (hag 0); assumption)) | (go_split_ands; refine ⟨?_, ?_, ?_, ?_, ?_, ?_⟩ <;> (refine g4.cell ?_ (hag 0); go_simp)) | (refine HNb.out _ ?_; ((repeat (first | exact Below.refl _ _ | assumption | refine Below.drew ?_ | refine below_drewN ?_ _ | refine Below.alloc ?_ (by first | omega | (simp; done) | (simp; omega)) _ | refine Below.setCell ?_ (by first | omega | (simp; done) | (simp; omega)) _)); done)))
            ((first
              | (go_at_call 36; refine (HWr.out _ _ _ (by (repeat (first | exact Below.refl _ _ | assumption | refine Below.drew ?_ | refine below_drewN ?_ _ | refine Below.alloc ?_ (by first | omega | (simp; done) | (simp; omega)) _ | refine Below.setCell ?_ (by first | omega | (simp; done) | (simp; omega)) _))) (hKn2.below (by (repeat (first | exact Below.refl _ _ | assumption | refine Below.drew ?_ | refine below_drewN ?_ _ | refine Below.alloc ?_ (by first | omega | (simp; done) | (simp; omega)) _ | refine Below.setCell ?_ (by first | omega | (simp; done) | (simp; omega)) _))))).mono ?_; rintro e w3 ⟨rfl, hb3⟩; have hb4 : Below w1.heap.size w1 w3 := bel2 hb3 (by (repeat (first | exact Below.refl _ _ | assumption | refine Below.drew ?_ | refine below_drewN ?_ _ | refine Below.alloc ?_ (by first | omega | (simp; done) | (simp; omega)) _ | refine Below.setCell ?_ (by first | omega | (simp; done) | (simp; omega)) _))); have hz4 := hb4.size)
              | (refine step_own (by rfl) _ _ _ (by rfl) w.heap.size 75 i0 _ 3 32 Tryz.underlying73 hi hz0 hz1 hz2 rfl (by omega) _ _ _ (by rfl) (own_below HTo.out (by (repeat (first | exact Below.refl _ _ | assumption | refine Below.drew ?_ | refine below_drewN ?_ _ | refine Below.alloc ?_ (by first | omega | (simp; done) | (simp; omega)) _ | refine Below.setCell ?_ (by first | omega | (simp; done) | (simp; omega)) _)))) ⟨_, 0, none⟩ 1 1 [str rx, .int .i64 rl, .bool rn] (by rfl) rfl (by exact cells_3g (heap_new_at (by simp))) (by simp [Value.oneCell']) (by unfold maxLen; omega) (by omega) (by simp; omega) ?_; intro v4 w4 o4 g4)))) | fail
          all_goals
            obtain ⟨A3, c3, rfl⟩ := own_form o4
            have hb6 : Below w.heap.size w w4 := (show Below w.heap.size w _ from bel2 (by (repeat (first | exact Below.refl _ _ | assumption | refine Below.drew ?_ | refine below_drewN ?_ _ | refine Below.alloc ?_ (by first | omega | (simp; done) | (simp; omega)) _ | refine Below.setCell ?_ (by first | omega | (simp; done) | (simp; omega)) _))) hbw1).grown g4 (by simp; omega) (fun k hk => (HTo.out.lt k hk).1)
            have HFin := hide (And.intro HST.out (And.intro o4 HPush.out))
            clear o4 g4
            go_wp2
            exact ⟨⟨k + 1, _, _, A3, c3, rfl, by go_num, by omega, hide (by first | exact HFin.out.1 | (have := HFin.out.1; simpa using this)), by have := HFin.out.2.1; rw [HFin.out.2.2] at this; exact this, hb6⟩, by simp [intOf]; omega⟩
    · obtain rfl : k = es.length := by omega
      obtain ⟨rfl, p, rfl, hpt, hf⟩ := frel_end H8.out HR.out
      have HF := hide hf
      clear hf
      rcases hown.2 with ⟨hv, hn0⟩ | ⟨gs, cap, cur, hv, hgs, hh, hnc, hcapm, hsz2, htk⟩
      · omega
      · injection hv with e1 e2 e3
        subst e1 e3
        have x0 : wr.cell? ⟨gs, 0, none⟩ = some (str p.text) := (World.ownsRow.cellAt hown 0 (by omega)).trans rfl
        clear hh htk hsz2 hown
        go_wp2
        go_ret2
        exact ⟨by rw [HF.out]; rfl, hbel⟩
end Go.Proofs.YtlfedcbihbigoaaGreatDoor
