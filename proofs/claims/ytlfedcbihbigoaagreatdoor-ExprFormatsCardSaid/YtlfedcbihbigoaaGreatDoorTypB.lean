/- Plain: what a valid list of nodes says of each prefix; rows of kinds. No program in sight. The type of an expression: there is an answer (ref9.Type). Contracts for building expressions: the operators over parts that the call has made (base.apply). Contracts for building expressions: base.logical. Contract: base.Unknown. Contracts for building expressions: base.numeric. Contracts for building expressions: base.Expr. -/
import Derived.Test.YtlfedcbihbigoaaGreatDoorBaseVX
import Derived.Test.YtlfedcbihbigoaaGreatDoorTotCD
import Derived.Test.YtlfedcbihbigoaaGreatDoorTotEK
import Derived.RegionTactic
import Derived.ChangeAlike
import Derived.Deep.RegionLawGrows
import Derived.BigGuardPart
import Derived.Deep.AppendLies
set_option linter.unusedVariables false
set_option linter.unusedSimpArgs false
namespace Go.Proofs.YtlfedcbihbigoaaGreatDoor
open Go.RowKit
/-- n kinds, as cells. -/
def KnL (n : Nat) (xs : List Value) : Prop := xs.length = n * 2 ∧ ∀ i, i < n → ∃ (k : Int) (b : Bool), xs[i * 2]? = some (.int .i64 k) ∧ xs[i * 2 + 1]? = some (.bool b)
theorem KnL.nil : KnL 0 [] := ⟨rfl, fun i hi => by omega⟩
theorem KnL.take {n r : Nat} {xs : List Value} (h : KnL n xs) (hr : r ≤ n) : KnL r (xs.take (r * 2)) := by
  refine ⟨by rw [List.length_take, h.1]; omega, fun i hi => ?_⟩
  obtain ⟨k, b, h1, h2⟩ := h.2 i (by omega)
  exact ⟨k, b, by rw [List.getElem?_take_of_lt (by omega)]; exact h1, by rw [List.getElem?_take_of_lt (by omega)]; exact h2⟩
theorem KnL.push {n : Nat} {xs : List Value} (h : KnL n xs) (k : Int) (b : Bool) : KnL (n + 1) (xs ++ [.int .i64 k, .bool b]) := by
  refine ⟨by rw [List.length_append, h.1]; simp; omega, fun i hi => ?_⟩
  by_cases hlt : i < n
  · obtain ⟨k, b, h1, h2⟩ := h.2 i hlt
    exact ⟨k, b, by rw [List.getElem?_append_left (by rw [h.1]; omega)]; exact h1, by rw [List.getElem?_append_left (by rw [h.1]; omega)]; exact h2⟩
  · obtain rfl : i = n := by omega
    refine ⟨k, b, ?_, ?_⟩
    · rw [List.getElem?_append_right (by rw [h.1]; omega), h.1]; simp
    · rw [List.getElem?_append_right (by rw [h.1]; omega), h.1, show i * 2 + 1 - i * 2 = 1 by omega]; rfl
theorem KnL.own {w : World} {base e n c r : Nat} {A : Option Addr} {xs : List Value} (h : w.ownsRow base e 2 (.slice A n c) n xs) (hk : KnL n xs) (hr : r ≤ n) :
    KnsAt w (if c = r then A else A.map (·.add (r * 2))) (n - r) := by
  rcases h.2 with ⟨hv, hn⟩ | ⟨g, cap, cur, hv, hg, hh, hnc, hcap, hsz, htk⟩
  · exact .inl (by omega)
  · injection hv with h1 h2 h3
    subst h1 h3
    by_cases hrn : r = n
    · exact .inl (by omega)
    rw [if_neg (by omega)]
    refine .inr ⟨g, r * 2, ?_, lt_of_heap hh, fun i hi => ?_⟩
    · cases r with
      | zero => simp [Addr.add]
      | succ m => simp [Addr.add]
    · obtain ⟨k, b, h3, h4⟩ := hk.2 (r + i) (by omega)
      refine ⟨k, b, ?_, ?_⟩
      · have hc : w.cell? ⟨g, r * 2 + i * 2, none⟩ = xs[r * 2 + i * 2]? := World.ownsRow.cellAt h (r * 2 + i * 2) (by omega)
        rw [hc, show r * 2 + i * 2 = (r + i) * 2 by omega]; exact h3
      · have hc : w.cell? ⟨g, r * 2 + i * 2 + 1, none⟩ = xs[r * 2 + i * 2 + 1]? := World.ownsRow.cellAt h (r * 2 + i * 2 + 1) (by omega)
        rw [hc, show r * 2 + i * 2 + 1 = (r + i) * 2 + 1 by omega]; exact h4
end Go.Proofs.YtlfedcbihbigoaaGreatDoor

namespace Go.Proofs.YtlfedcbihbigoaaGreatDoor
open Go.RowKit
def TyIs (e : Ending) : Prop := ∃ (k : Int) (b : Bool) (x : Int), e = .returned (.tuple #[.int .i64 k, .bool b, .int .i64 x])
theorem cells_2 {W : World} {B : Nat} {a b : Value} {t : TypeId} (h : W.heap[B]? = some (.cells #[a, b] t)) : ∀ (j : Nat) (u : Value), [a, b][j]? = some u → W.cell? ((⟨B, 0, none⟩ : Addr).add j) = some u := by
  intro j u hu
  have e : (⟨B, 0, none⟩ : Addr).add j = ⟨B, j, none⟩ := by unfold Addr.add; split <;> simp_all
  rw [e, cell_of_heap h]
  simpa using hu
theorem Tryz.info_kn : (Tryz.prog.info? 152).map (fun i => (i.zero, i.size, i.bytes)) = some (some (.agg #[.int .i64 0, .bool false]), 2, 16) := by kernel_rfl
/-- What is asked of ref9.node. -/
def NodeAny : Prop := ∀ (op k m a : Int) (x nm : ByteArray) (X C Z : Option Addr) (cs : List Col) (n xc cc zm zc : Nat) (w : World), (n : Int) = arityN op a → KnsAt w X n → ColsAt w C cs → cs.length ≤ 1000000 → ZonesAt w Z zm → zm ≤ 1000000 →
    Calls Tryz.prog 119 #[ndV op k m x nm a, .slice X n xc, .slice C cs.length cc, .slice Z zm zc] w fun e w' => NodeIs e ∧ Below w.heap.size w w'
set_option maxRecDepth 100000 in
set_option maxHeartbeats 4000000 in
theorem ref9_Type_any (hNode : NodeAny) (A : Option Addr) (es : List Nd) (c : Nat) (C : Option Addr) (cs : List Col) (cc : Nat) (Z : Option Addr) (zm zc : Nat) (w : World) (hE : NdsAt w A es) (hle : es.length ≤ 1000000) (hx : NamesOk es)
    (hC : ColsAt w C cs) (hcl : cs.length ≤ 1000000) (hZ : ZonesAt w Z zm) (hz : zm ≤ 1000000) :
    Calls Tryz.prog 81 #[.slice A es.length c, .slice C cs.length cc, .slice Z zm zc] w fun e w' => TyIs e ∧ Below w.heap.size w w' := by
  have HE := hide hE; have HC := hide hC; have HZ := hide hZ
  have HV := hide (ref8_Validate_any A es c w hE hle hx)
  have HN := hide hNode
  clear hE hC hZ hx hNode
  obtain ⟨i0, hi, hz0, hz1, hz2⟩ := info_parts Tryz.info_kn
  by_cases h8 : validE es = 0
  rotate_left
  · have HV2 := hide h8
    have hne : (validE es != 0) = true := by simpa using h8
    clear h8
    generalize validE es = x at *
    go_enter Tryz.func81, Tryz.ntmps81
    go_wp2_with (go_at_call 20; refine (HV.out).mono ?_; rintro e w1 ⟨rfl, hb1⟩)
    refine bodyPost_ret (v := .tuple #[.int .i64 0, .bool false, .int .i64 x]) (by simp [results, Tryz.results81, go_sem]) rfl ⟨⟨_, _, _, rfl⟩, hb1⟩
  rw [h8] at HV
  have hle2 := valid_le h8
  have H8 := hide h8
  clear h8
  go_enter Tryz.func81, Tryz.ntmps81
  go_wp2_with (go_at_call 20; refine (HV.out).mono ?_; rintro e w1 ⟨rfl, hb1⟩)
  refine (ref5_Validate_any C cs cc _ (HC.out.below hb1) hcl).mono ?_
  rintro e w2 ⟨⟨y, rfl⟩, rfl⟩
  by_cases hy : y = 0
  rotate_left
  · have hy2 : (y != 0) = true := by simpa using hy
    go_wp2
    refine bodyPost_ret (v := .tuple #[.int .i64 0, .bool false, .int .i64 y]) (by simp [results, Tryz.results81, go_sem]) rfl ⟨⟨_, _, _, rfl⟩, hb1⟩
  subst hy
  go_wp2
  have hsz1 := hb1.size
  go_loopw [11] (fun i wr => ∃ k : Nat, k ≤ zm ∧ i = .int .i64 k ∧ Below w.heap.size w wr) (fun i _ => zm - (intOf i).toNat)
  case atStart => exact ⟨0, by omega, rfl, hb1⟩
  case round =>
    obtain ⟨k, hk, rfl, hbel⟩ := hrel
    have hsz := hbel.size
    by_cases hlt : k < zm
    · rcases HZ.out.below hbel with e | ⟨g, off, rfl, hg, hcz⟩
      · omega
      obtain ⟨nm, o, S, sm, sc, c0, c1, c2, hS, hsm⟩ := hcz k hlt
      have HS := hide hS
      clear hcz hS
      go_wp2_with fail
      refine (ref4_Validate_any _ _ _ _ _ _ HS.out hsm).mono ?_
      rintro e w3 ⟨⟨y, rfl⟩, hb3⟩
      by_cases hy : y = 0
      · subst hy
        go_wp2
        exact ⟨⟨k + 1, by omega, by go_num, bel2 hb3 hbel⟩, by simp [intOf]; omega⟩
      · have hy2 : (y != 0) = true := by simpa using hy
        go_wp2
        refine bodyPost_ret (v := .tuple #[.int .i64 0, .bool false, .int .i64 y]) (by simp [results, Tryz.results81, go_sem]) rfl ⟨⟨_, _, _, rfl⟩, bel2 hb3 hbel⟩
    · go_wp2
      go_loopw [13, 14] (fun s i wr => ∃ (k n : Nat) (A' : Option Addr) (c' : Nat) (xs : List Value) (st : List Int), s = .slice A' n c' ∧ i = .int .i64 k ∧ k ≤ es.length ∧ Hid (RunRel es k st) ∧ st.length = n ∧ Hid (KnL n xs) ∧
          wr.ownsRow w.heap.size 152 2 (.slice A' n c') n xs ∧ Below w.heap.size w wr) (fun _ i _ => es.length - (intOf i).toNat)
      case atStart => exact ⟨0, 0, none, 0, [], [], rfl, rfl, by omega, hide rfl, rfl, hide KnL.nil, own_nil _ _ _ _, hbel⟩
      case round =>
        clear hbel hsz hk
        obtain ⟨k, n, A', c', xs, st, rfl, rfl, hk, HR, hsn, HK, hown, hbel⟩ := hrel
        have hsz := hbel.size
        have hn256 : n ≤ 256 := by have := (HR.out.facts hk).2; omega
        by_cases hlt2 : k < es.length
        · obtain ⟨a, ha, ha8, han, st', hst', hlen⟩ := valid_step H8.out hlt2 HR.out
          have HST := hide (And.intro hst' hlen)
          clear hst' hlen
          rcases HE.out.below hbel with e | ⟨g, off, rfl, hg, hc⟩
          · exact absurd hlt2 (by rw [e]; simp)
          have HNd := hide (fun W (hW : Below wr.heap.size wr W) => (nd_of_cells (w := W) (g := g) (off := off) (es := es) (fun j u hu => (hW.cell (p := ⟨g, off + j, none⟩) hg).trans (hc j u hu)) k hlt2))
          have HAr := hide (fun W => ref8_Arity_any es[k].op es[k].val.kind es[k].val.num es[k].arity ⟨es[k].val.text.toArray⟩ ⟨es[k].name.toArray⟩ W)
          have ha1 : arityN es[k].op es[k].arity = (a : Int) := ha
          clear hc
          obtain ⟨nd, hn⟩ : ∃ nd, nd = es[k] := ⟨_, rfl⟩
          rw [← hn] at HNd HAr ha1
          clear hn ha
          have HA1 := hide (fun W => by have := HAr.out W; rw [ha1] at this; exact this)
          obtain ⟨r, hr⟩ : ∃ r, r = n - a := ⟨_, rfl⟩
          have hr2 : n = r + a := by omega
          have hsub : (n : Int) - (a : Int) = (r : Int) := by omega
          have HNo := hide (fun X xc W (hW : Below w.heap.size w W) (hX : KnsAt W X a) => HN.out nd.op nd.val.kind nd.val.num nd.arity ⟨nd.val.text.toArray⟩ ⟨nd.name.toArray⟩ X C Z cs a xc cc zm zc W ha1.symm hX (HC.out.below hW) hcl (HZ.out.below hW) hz)
          have hcap := own_cap hown
          have HO := hide hown
          obtain ⟨n0, n1, n2, n3, n4, n5⟩ := HNd.out wr (Below.refl _ _)
          clear hr ha1 hown
          go_wp2_with (go_at_call 24; refine (HA1.out _).mono ?_; rintro e w1 ⟨rfl, hb1⟩; obtain ⟨m0, m1, m2, m3, m4, m5⟩ := HNd.out _ hb1)
          subst hr2
          have hbw1 := bel2 hb1 hbel
          have hs1 := hb1.size
          have HOL := hide (fun W (hW : Below wr.heap.size wr W) => fun b hb j u hu => own_cells (own_below HO.out hW) b hb j u (take_some (m := r * 2) hu))
          have HKT := hide (HK.out.take (r := r) (by omega))
          have HLo := hide (show (xs.take (r * 2)).length = r * 2 from by rw [List.length_take, HK.out.1]; omega)
          have hKn : KnsAt w1 (if c' = r then A' else A'.map (·.add (r * 2))) a := by
            have := HK.out.own HO.out (r := r) (by omega)
            rw [show r + a - r = a by omega] at this
            exact this.below hb1
          have b0 : (0 : Int) ≤ (r : Int) := by omega
          have b1 : (r : Int) ≤ ((r + a : Nat) : Int) := by omega
          have b2 : (r : Int) ≤ (c' : Int) := by omega
          have b3 : (r : Int) ≤ (r : Int) + (a : Int) := by omega
          clear n0 n1 n2 n3 n4 n5
          rcases HO.out.2 with ⟨hv, hn0⟩ | ⟨gs, cap, cur, hv, hgs, hh, hnc, hcapm, hsz2, htk⟩
          · injection hv with h1 h2 h3
            subst h1 h3
            obtain rfl : r = 0 := by omega
            obtain rfl : a = 0 := by omega
            have hKn2 : KnsAt w1 none 0 := .inl rfl
            clear hKn
            first | (go_region_held3 (fun w' => w'.cell? ⟨g, off + k * 6, none⟩ = some (.int .i64 nd.op) ∧ w'.cell? ⟨g, off + k * 6 + 1, none⟩ = some (.int .i64 nd.val.kind) ∧ w'.cell? ⟨g, off + k * 6 + 2, none⟩ = some (.int .i64 nd.val.num) ∧ w'.cell? ⟨g, off + k * 6 + 3, none⟩ = some (str nd.val.text) ∧ w'.cell? ⟨g, off + k * 6 + 4, none⟩ = some (str nd.name) ∧ w'.cell? ⟨g, off + k * 6 + 5, none⟩ = some (.int .i64 nd.arity))
              (first | (refine HNd.out _ ?_; ((repeat (first | exact Below.refl _ _ | assumption | refine Below.drew ?_ | refine below_drewN ?_ _ | refine Below.alloc ?_ (by first | omega | simp <;> omega) _ | refine Below.setCell ?_ (by first | omega | simp <;> omega) _)); done)) | go_keep)
              ((first | (go_at_call 119; refine (HNo.out _ _ _ (by (repeat (first | exact Below.refl _ _ | assumption | refine Below.drew ?_ | refine below_drewN ?_ _ | refine Below.alloc ?_ (by first | omega | simp <;> omega) _ | refine Below.setCell ?_ (by first | omega | simp <;> omega) _))) (hKn2.below (by (repeat (first | exact Below.refl _ _ | assumption | refine Below.drew ?_ | refine below_drewN ?_ _ | refine Below.alloc ?_ (by first | omega | simp <;> omega) _ | refine Below.setCell ?_ (by first | omega | simp <;> omega) _))))).mono ?_; rintro e w3 ⟨⟨kr, br, er, rfl⟩, hb3⟩; have hb4 : Below wr.heap.size wr w3 := Below.trans (by (repeat (first | exact Below.refl _ _ | assumption | refine Below.drew ?_ | refine below_drewN ?_ _ | refine Below.alloc ?_ (by first | omega | simp <;> omega) _ | refine Below.setCell ?_ (by first | omega | simp <;> omega) _))) (hb3.mono (by simp; omega)); have hb5 := bel2 hb4 hbel; have hz4 := hb4.size; (first | (have hxb : w3.heap[w1.heap.size]? = some (.cells #[.int .i64 0, .bool false] 152) := (hb3.block _ (by simp)).trans (heap_alloc_new w1 _); have x0 : w3.cell? ⟨w1.heap.size, 0, none⟩ = some (.int .i64 0) := (by rw [cell_of_heap hxb]; rfl); have x1 : w3.cell? ⟨w1.heap.size, 1, none⟩ = some (.bool false) := (by rw [cell_of_heap hxb]; rfl); have xf : ∀ i, w3.frozen? ⟨w1.heap.size, i, none⟩ = false := (fun i => free_of_heap hxb i); have s0 := (fun a => (box2set x0 x1 a (.bool true)).1); have s1 := (fun a b => (box2set x0 x1 a b).2); clear hxb) | skip))))) | fail
            all_goals
              have hno := hb5
              clear m0 m1 m2 m3 m4 m5
              by_cases her : er = 0
              · subst her
                go_wp2
                first | (go_region_law ((refine step_append_grows (by rfl) _ _ _ (by rfl) 152 i0 _ 2 16 Tryz.underlying150 hi hz0 hz1 hz2 rfl (by omega) _ _ _ _ (by rfl) (by intro e; first | (cases e; done) | exact ⟨rfl, rfl⟩) HLo.out (HOL.out _ (by (repeat (first | exact Below.refl _ _ | assumption | refine Below.drew ?_ | refine below_drewN ?_ _ | refine Below.alloc ?_ (by first | omega | simp <;> omega) _ | refine Below.setCell ?_ (by first | omega | simp <;> omega) _)))) ⟨_, 0, none⟩ 1 1 [.int .i64 kr, .bool br] (by rfl) rfl (by exact cells_2 (heap_new_at (by simp))) (by simp [Value.oneCell']) (by omega) (by unfold maxLen; omega) (by omega) ?_; intro v' w4 hown4 hgrow4))) | fail
                all_goals
                  obtain ⟨A3, c3, rfl⟩ := own_form hown4
                  have hb6 : Below w.heap.size w w4 := (show Below w.heap.size w _ from by (repeat (first | exact Below.refl _ _ | assumption | refine Below.drew ?_ | refine below_drewN ?_ _ | refine Below.alloc ?_ (by first | omega | simp <;> omega) _ | refine Below.setCell ?_ (by first | omega | simp <;> omega) _))).grown hgrow4 (by simp; omega) (fun k hk => by cases hk)
                  have hown5 := own_low (b2 := w.heap.size) hown4 (by simp; omega)
                  have HFin := hide (And.intro (HST.out.1) (And.intro HST.out.2 (And.intro (HKT.out.push kr br) hown5)))
                  clear hown4 hown5 hgrow4
                  go_wp2
                  exact ⟨⟨k + 1, _, A3, c3, _, st', rfl, by go_num, by omega, hide HFin.out.1, by rw [HFin.out.2.1]; omega, hide HFin.out.2.2.1, HFin.out.2.2.2, hb6⟩, by simp [intOf]; omega⟩
              · have her2 : (er != 0) = true := by simpa using her
                go_wp2
                refine bodyPost_ret (v := .tuple #[.int .i64 0, .bool false, .int .i64 er]) (by simp [results, Tryz.results81, go_sem]) rfl ⟨⟨_, _, _, rfl⟩, by (repeat (first | exact Below.refl _ _ | assumption | refine Below.drew ?_ | refine below_drewN ?_ _ | refine Below.alloc ?_ (by first | omega | simp <;> omega) _ | refine Below.setCell ?_ (by first | omega | simp <;> omega) _))⟩
          · injection hv with h1 h2 h3
            subst h1 h3
            clear hh htk hsz2
            by_cases hcr : c' = r
            · subst hcr
              obtain rfl : a = 0 := by omega
              have hKn2 : KnsAt w1 (some ⟨gs, 0, none⟩) 0 := .inl rfl
              clear hKn
              first | (go_region_held3 (fun w' => w'.cell? ⟨g, off + k * 6, none⟩ = some (.int .i64 nd.op) ∧ w'.cell? ⟨g, off + k * 6 + 1, none⟩ = some (.int .i64 nd.val.kind) ∧ w'.cell? ⟨g, off + k * 6 + 2, none⟩ = some (.int .i64 nd.val.num) ∧ w'.cell? ⟨g, off + k * 6 + 3, none⟩ = some (str nd.val.text) ∧ w'.cell? ⟨g, off + k * 6 + 4, none⟩ = some (str nd.name) ∧ w'.cell? ⟨g, off + k * 6 + 5, none⟩ = some (.int .i64 nd.arity))
                (first | (refine HNd.out _ ?_; ((repeat (first | exact Below.refl _ _ | assumption | refine Below.drew ?_ | refine below_drewN ?_ _ | refine Below.alloc ?_ (by first | omega | simp <;> omega) _ | refine Below.setCell ?_ (by first | omega | simp <;> omega) _)); done)) | go_keep)
                ((first | (go_at_call 119; refine (HNo.out _ _ _ (by (repeat (first | exact Below.refl _ _ | assumption | refine Below.drew ?_ | refine below_drewN ?_ _ | refine Below.alloc ?_ (by first | omega | simp <;> omega) _ | refine Below.setCell ?_ (by first | omega | simp <;> omega) _))) (hKn2.below (by (repeat (first | exact Below.refl _ _ | assumption | refine Below.drew ?_ | refine below_drewN ?_ _ | refine Below.alloc ?_ (by first | omega | simp <;> omega) _ | refine Below.setCell ?_ (by first | omega | simp <;> omega) _))))).mono ?_; rintro e w3 ⟨⟨kr, br, er, rfl⟩, hb3⟩; have hb4 : Below wr.heap.size wr w3 := Below.trans (by (repeat (first | exact Below.refl _ _ | assumption | refine Below.drew ?_ | refine below_drewN ?_ _ | refine Below.alloc ?_ (by first | omega | simp <;> omega) _ | refine Below.setCell ?_ (by first | omega | simp <;> omega) _))) (hb3.mono (by simp; omega)); have hb5 := bel2 hb4 hbel; have hz4 := hb4.size; (first | (have hxb : w3.heap[w1.heap.size]? = some (.cells #[.int .i64 0, .bool false] 152) := (hb3.block _ (by simp)).trans (heap_alloc_new w1 _); have x0 : w3.cell? ⟨w1.heap.size, 0, none⟩ = some (.int .i64 0) := (by rw [cell_of_heap hxb]; rfl); have x1 : w3.cell? ⟨w1.heap.size, 1, none⟩ = some (.bool false) := (by rw [cell_of_heap hxb]; rfl); have xf : ∀ i, w3.frozen? ⟨w1.heap.size, i, none⟩ = false := (fun i => free_of_heap hxb i); have s0 := (fun a => (box2set x0 x1 a (.bool true)).1); have s1 := (fun a b => (box2set x0 x1 a b).2); clear hxb) | skip))))) | fail
              all_goals
                have hno := hb5
                clear m0 m1 m2 m3 m4 m5
                by_cases her : er = 0
                · subst her
                  go_wp2
                  first | (go_region_law ((refine step_append_grows (by rfl) _ _ _ (by rfl) 152 i0 _ 2 16 Tryz.underlying150 hi hz0 hz1 hz2 rfl (by omega) _ _ _ _ (by rfl) (by intro e; first | (cases e; done) | exact ⟨rfl, rfl⟩) HLo.out (HOL.out _ (by (repeat (first | exact Below.refl _ _ | assumption | refine Below.drew ?_ | refine below_drewN ?_ _ | refine Below.alloc ?_ (by first | omega | simp <;> omega) _ | refine Below.setCell ?_ (by first | omega | simp <;> omega) _)))) ⟨_, 0, none⟩ 1 1 [.int .i64 kr, .bool br] (by rfl) rfl (by exact cells_2 (heap_new_at (by simp))) (by simp [Value.oneCell']) (by omega) (by unfold maxLen; omega) (by omega) ?_; intro v' w4 hown4 hgrow4))) | fail
                  all_goals
                    obtain ⟨A3, c3, rfl⟩ := own_form hown4
                    have hb6 : Below w.heap.size w w4 := (show Below w.heap.size w _ from by (repeat (first | exact Below.refl _ _ | assumption | refine Below.drew ?_ | refine below_drewN ?_ _ | refine Below.alloc ?_ (by first | omega | simp <;> omega) _ | refine Below.setCell ?_ (by first | omega | simp <;> omega) _))).grown hgrow4 (by simp; omega) (fun k hk => by cases hk)
                    have hown5 := own_low (b2 := w.heap.size) hown4 (by simp; omega)
                    have HFin := hide (And.intro (HST.out.1) (And.intro HST.out.2 (And.intro (HKT.out.push kr br) hown5)))
                    clear hown4 hown5 hgrow4
                    go_wp2
                    exact ⟨⟨k + 1, _, A3, c3, _, st', rfl, by go_num, by omega, hide HFin.out.1, by rw [HFin.out.2.1]; omega, hide HFin.out.2.2.1, HFin.out.2.2.2, hb6⟩, by simp [intOf]; omega⟩
                · have her2 : (er != 0) = true := by simpa using her
                  go_wp2
                  refine bodyPost_ret (v := .tuple #[.int .i64 0, .bool false, .int .i64 er]) (by simp [results, Tryz.results81, go_sem]) rfl ⟨⟨_, _, _, rfl⟩, by (repeat (first | exact Below.refl _ _ | assumption | refine Below.drew ?_ | refine below_drewN ?_ _ | refine Below.alloc ?_ (by first | omega | simp <;> omega) _ | refine Below.setCell ?_ (by first | omega | simp <;> omega) _))⟩
            · rw [if_neg hcr] at hKn
              have hKn2 : KnsAt w1 (some ⟨gs, r * 2, none⟩) a := by simpa [Addr.add_lit] using hKn
              clear hKn
              first | (go_region_held3 (fun w' => w'.cell? ⟨g, off + k * 6, none⟩ = some (.int .i64 nd.op) ∧ w'.cell? ⟨g, off + k * 6 + 1, none⟩ = some (.int .i64 nd.val.kind) ∧ w'.cell? ⟨g, off + k * 6 + 2, none⟩ = some (.int .i64 nd.val.num) ∧ w'.cell? ⟨g, off + k * 6 + 3, none⟩ = some (str nd.val.text) ∧ w'.cell? ⟨g, off + k * 6 + 4, none⟩ = some (str nd.name) ∧ w'.cell? ⟨g, off + k * 6 + 5, none⟩ = some (.int .i64 nd.arity))
                (first | (refine HNd.out _ ?_; ((repeat (first | exact Below.refl _ _ | assumption | refine Below.drew ?_ | refine below_drewN ?_ _ | refine Below.alloc ?_ (by first | omega | simp <;> omega) _ | refine Below.setCell ?_ (by first | omega | simp <;> omega) _)); done)) | go_keep)
                ((first | (go_at_call 119; refine (HNo.out _ _ _ (by (repeat (first | exact Below.refl _ _ | assumption | refine Below.drew ?_ | refine below_drewN ?_ _ | refine Below.alloc ?_ (by first | omega | simp <;> omega) _ | refine Below.setCell ?_ (by first | omega | simp <;> omega) _))) (hKn2.below (by (repeat (first | exact Below.refl _ _ | assumption | refine Below.drew ?_ | refine below_drewN ?_ _ | refine Below.alloc ?_ (by first | omega | simp <;> omega) _ | refine Below.setCell ?_ (by first | omega | simp <;> omega) _))))).mono ?_; rintro e w3 ⟨⟨kr, br, er, rfl⟩, hb3⟩; have hb4 : Below wr.heap.size wr w3 := Below.trans (by (repeat (first | exact Below.refl _ _ | assumption | refine Below.drew ?_ | refine below_drewN ?_ _ | refine Below.alloc ?_ (by first | omega | simp <;> omega) _ | refine Below.setCell ?_ (by first | omega | simp <;> omega) _))) (hb3.mono (by simp; omega)); have hb5 := bel2 hb4 hbel; have hz4 := hb4.size; (first | (have hxb : w3.heap[w1.heap.size]? = some (.cells #[.int .i64 0, .bool false] 152) := (hb3.block _ (by simp)).trans (heap_alloc_new w1 _); have x0 : w3.cell? ⟨w1.heap.size, 0, none⟩ = some (.int .i64 0) := (by rw [cell_of_heap hxb]; rfl); have x1 : w3.cell? ⟨w1.heap.size, 1, none⟩ = some (.bool false) := (by rw [cell_of_heap hxb]; rfl); have xf : ∀ i, w3.frozen? ⟨w1.heap.size, i, none⟩ = false := (fun i => free_of_heap hxb i); have s0 := (fun a => (box2set x0 x1 a (.bool true)).1); have s1 := (fun a b => (box2set x0 x1 a b).2); clear hxb) | skip))))) | fail
              all_goals
                have hno := hb5
                clear m0 m1 m2 m3 m4 m5
                by_cases her : er = 0
                · subst her
                  go_wp2
                  first | (go_region_law ((refine step_append_grows (by rfl) _ _ _ (by rfl) 152 i0 _ 2 16 Tryz.underlying150 hi hz0 hz1 hz2 rfl (by omega) _ _ _ _ (by rfl) (by intro e; first | (cases e; done) | exact ⟨rfl, rfl⟩) HLo.out (HOL.out _ (by (repeat (first | exact Below.refl _ _ | assumption | refine Below.drew ?_ | refine below_drewN ?_ _ | refine Below.alloc ?_ (by first | omega | simp <;> omega) _ | refine Below.setCell ?_ (by first | omega | simp <;> omega) _)))) ⟨_, 0, none⟩ 1 1 [.int .i64 kr, .bool br] (by rfl) rfl (by exact cells_2 (heap_new_at (by simp))) (by simp [Value.oneCell']) (by omega) (by unfold maxLen; omega) (by omega) ?_; intro v' w4 hown4 hgrow4))) | fail
                  all_goals
                    obtain ⟨A3, c3, rfl⟩ := own_form hown4
                    have hb6 : Below w.heap.size w w4 := (show Below w.heap.size w _ from by (repeat (first | exact Below.refl _ _ | assumption | refine Below.drew ?_ | refine below_drewN ?_ _ | refine Below.alloc ?_ (by first | omega | simp <;> omega) _ | refine Below.setCell ?_ (by first | omega | simp <;> omega) _))).grown hgrow4 (by simp; omega) (fun k hk => by cases hk)
                    have hown5 := own_low (b2 := w.heap.size) hown4 (by simp; omega)
                    have HFin := hide (And.intro (HST.out.1) (And.intro HST.out.2 (And.intro (HKT.out.push kr br) hown5)))
                    clear hown4 hown5 hgrow4
                    go_wp2
                    exact ⟨⟨k + 1, _, A3, c3, _, st', rfl, by go_num, by omega, hide HFin.out.1, by rw [HFin.out.2.1]; omega, hide HFin.out.2.2.1, HFin.out.2.2.2, hb6⟩, by simp [intOf]; omega⟩
                · have her2 : (er != 0) = true := by simpa using her
                  go_wp2
                  refine bodyPost_ret (v := .tuple #[.int .i64 0, .bool false, .int .i64 er]) (by simp [results, Tryz.results81, go_sem]) rfl ⟨⟨_, _, _, rfl⟩, by (repeat (first | exact Below.refl _ _ | assumption | refine Below.drew ?_ | refine below_drewN ?_ _ | refine Below.alloc ?_ (by first | omega | simp <;> omega) _ | refine Below.setCell ?_ (by first | omega | simp <;> omega) _))⟩
        · obtain rfl : k = es.length := by omega
          have h1 := valid_last H8.out HR.out
          obtain rfl : n = 1 := by omega
          obtain ⟨kk, bb, g0, g1⟩ := HK.out.2 0 (by omega)
          rcases hown.2 with ⟨hv, hn0⟩ | ⟨gs, cap, cur, hv, hgs, hh, hnc, hcapm, hsz2, htk⟩
          · omega
          · injection hv with e1 e2 e3
            subst e1 e3
            have x0 : wr.cell? ⟨gs, 0, none⟩ = some (.int .i64 kk) := (World.ownsRow.cellAt hown 0 (by omega)).trans g0
            have x1 : wr.cell? ⟨gs, 1, none⟩ = some (.bool bb) := (World.ownsRow.cellAt hown 1 (by omega)).trans g1
            clear hh htk hsz2 hown
            go_wp2
            go_big_quiet (fail)
            go_wp2
            refine bodyPost_ret (v := .tuple #[.int .i64 kk, .bool bb, .int .i64 0]) (by simp [results, Tryz.results81, go_sem]) rfl ⟨⟨_, _, _, rfl⟩, by (repeat (first | exact Below.refl _ _ | assumption | refine Below.drew ?_ | refine below_drewN ?_ _ | refine Below.alloc ?_ (by first | omega | simp <;> omega) _ | refine Below.setCell ?_ (by first | omega | simp <;> omega) _))⟩
end Go.Proofs.YtlfedcbihbigoaaGreatDoor

namespace Go.Proofs.YtlfedcbihbigoaaGreatDoor
open Go.RowKit
theorem lAt_nn (l : List Int) (i : Int) : 0 ≤ lAt l i := by
  unfold lAt
  split
  · omega
  · have h1 : 0 ≤ i % 65536 / (l.length : Int) := Int.ediv_nonneg (by omega) (by omega)
    omega
theorem lAt_top (l : List Int) (i : Int) : lAt l i ≤ 131072 := by
  unfold lAt
  split
  · omega
  · have h1 : i % 65536 / (l.length : Int) ≤ i % 65536 := Int.ediv_le_self _ (by omega)
    omega
theorem Good.names {cs : List Bytes} {d : Nat} {es : List Nd} (h : Good cs d es) : NamesOk es := fun n hn => by
  have := ok_name (h.oks n hn)
  unfold maxLen; omega
theorem Good.short {cs : List Bytes} {d : Nat} {es : List Nd} (h : Good cs d es) (hd : d ≤ 4) : es.length ≤ 121 := Nat.le_trans h.1 (lenB_mono (e := 4) hd)
def ExprIs (cs : List Bytes) (d : Nat) (w w' : World) (e : Ending) : Prop := ∃ es, Good cs d es ∧ OwnNds w w' es e
theorem op_bin {op : Int} (h : 4 ≤ op) (h2 : op ≤ 15 ∨ op = 18) : (⟨op, vl0, [], 0⟩ : Nd).ok = true ∧ (⟨op, vl0, [], 0⟩ : Nd).ar = 2 := by
  have ha : arityN op 0 = 2 := by
    unfold arityN
    rw [if_neg (by omega), if_neg (by omega), if_neg (by omega), if_neg (by omega), if_pos (by omega)]
  refine ⟨?_, ha⟩
  show shapedN op 0 0 [] [] 0 = true
  unfold shapedN
  rw [if_neg (by omega), if_neg (by omega), if_neg (by omega), if_neg (by omega), ha]
  rfl
/-- Parts in a row of slices that has just been laid. -/
theorem ops_new {W : World} {t : TypeId} (os : List Opd) (h : ∀ o ∈ os, NdsAt W o.A o.es ∧ o.es ≠ [] ∧ o.es.length ≤ 10000) :
    OpsAt (W.alloc (.cells (os.map fun o => Value.slice o.A o.es.length o.c).toArray t)) W.heap.size 0 os := by
  refine ⟨by simp, fun i hi => ?_⟩
  obtain ⟨h1, h2, h3⟩ := h os[i] (List.getElem_mem hi)
  refine ⟨?_, h1.below (Below.alloc (Below.refl _ _) (Nat.le_refl _) _), h2, h3⟩
  rw [cell_of_heap (heap_alloc_new W _)]
  simp [hi]
abbrev OwnE (B : Nat) (W : World) (A : Option Addr) (es : List Nd) (c : Nat) : Prop := W.ownsRow B 53 6 (.slice A es.length c) es.length (ndCells es)
theorem apply_tail {cs : List Bytes} {d B : Nat} {W0 W : World} {os : List Opd} {op : Int} {t : TypeId} (hB : W0.heap.size = B) (hb : Below B W0 W) (h : ∀ o ∈ os, NdsAt W o.A o.es ∧ o.es ≠ [] ∧ o.es.length ≤ 10000) (hl : os.length ≤ 10)
    (hg : Good cs d (flatO os ++ [⟨op, vl0, [], 0⟩])) :
    Calls Tryz.prog 45 #[.int .i64 op, .slice (some ⟨W.heap.size, 0, none⟩) os.length os.length] (W.alloc (.cells (os.map fun o => Value.slice o.A o.es.length o.c).toArray t)) fun e w' => ExprIs cs d W0 w' e ∧ Below W0.heap.size W0 w' := by
  subst hB
  refine (base_apply_any op W.heap.size 0 os.length os _ (ops_new os h) hl).mono ?_
  rintro e w' ⟨⟨A, c, rfl, hown⟩, hb2⟩
  have hs := hb.size
  refine ⟨⟨_, hg, A, c, rfl, own_low hown (by simp; omega)⟩, ?_⟩
  exact (hb.alloc hs _).trans (hb2.mono (by simp; omega))
theorem apply_un {cs : List Bytes} {d c : Nat} {W0 W : World} {A : Option Addr} {es : List Nd} {op : Int} {t : TypeId} (hop : (⟨op, vl0, [], 0⟩ : Nd).ok = true ∧ (⟨op, vl0, [], 0⟩ : Nd).ar = 1) (hd : d ≤ 4) (hb : Below W0.heap.size W0 W)
    (g : Good cs d es) (ho : OwnE W0.heap.size W A es c) :
    Calls Tryz.prog 45 #[.int .i64 op, .slice (some ⟨W.heap.size, 0, none⟩) 1 1] (W.alloc (.cells #[.slice A es.length c] t)) fun e w' => ExprIs cs (d + 1) W0 w' e ∧ Below W0.heap.size W0 w' := by
  have hl := g.short hd
  refine apply_tail (os := [⟨A, es, c⟩]) rfl hb ?_ (by simp) ?_
  · intro o ho2
    simp only [List.mem_cons, List.not_mem_nil, or_false] at ho2
    subst ho2
    exact ⟨NdsAt_of_own ho, g.ne, by show es.length ≤ _; omega⟩
  · have := Good.un (by omega) g (n := ⟨op, vl0, [], 0⟩) hop.1 hop.2
    simpa [flatO] using this
theorem apply_bin {cs : List Bytes} {d c1 c2 : Nat} {W0 W : World} {A1 A2 : Option Addr} {es1 es2 : List Nd} {op : Int} {t : TypeId} (hop : (⟨op, vl0, [], 0⟩ : Nd).ok = true ∧ (⟨op, vl0, [], 0⟩ : Nd).ar = 2) (hd : d ≤ 4) (hb : Below W0.heap.size W0 W)
    (g1 : Good cs d es1) (o1 : OwnE W0.heap.size W A1 es1 c1) (g2 : Good cs d es2) (o2 : OwnE W0.heap.size W A2 es2 c2) :
    Calls Tryz.prog 45 #[.int .i64 op, .slice (some ⟨W.heap.size, 0, none⟩) 2 2] (W.alloc (.cells #[.slice A1 es1.length c1, .slice A2 es2.length c2] t)) fun e w' => ExprIs cs (d + 1) W0 w' e ∧ Below W0.heap.size W0 w' := by
  have h1 := g1.short hd
  have h2 := g2.short hd
  refine apply_tail (os := [⟨A1, es1, c1⟩, ⟨A2, es2, c2⟩]) rfl hb ?_ (by simp) ?_
  · intro o ho
    simp only [List.mem_cons, List.not_mem_nil, or_false] at ho
    rcases ho with rfl | rfl
    · exact ⟨NdsAt_of_own o1, g1.ne, by show es1.length ≤ _; omega⟩
    · exact ⟨NdsAt_of_own o2, g2.ne, by show es2.length ≤ _; omega⟩
  · have := Good.bin (by omega) g1 g2 (n := ⟨op, vl0, [], 0⟩) hop.1 hop.2
    simpa [flatO] using this
theorem apply_tri {cs : List Bytes} {d c1 c2 c3 : Nat} {W0 W : World} {A1 A2 A3 : Option Addr} {es1 es2 es3 : List Nd} {op : Int} {t : TypeId} (hop : (⟨op, vl0, [], 0⟩ : Nd).ok = true ∧ (⟨op, vl0, [], 0⟩ : Nd).ar = 3) (hd : d ≤ 4) (hb : Below W0.heap.size W0 W)
    (g1 : Good cs d es1) (o1 : OwnE W0.heap.size W A1 es1 c1) (g2 : Good cs d es2) (o2 : OwnE W0.heap.size W A2 es2 c2) (g3 : Good cs d es3) (o3 : OwnE W0.heap.size W A3 es3 c3) :
    Calls Tryz.prog 45 #[.int .i64 op, .slice (some ⟨W.heap.size, 0, none⟩) 3 3] (W.alloc (.cells #[.slice A1 es1.length c1, .slice A2 es2.length c2, .slice A3 es3.length c3] t)) fun e w' => ExprIs cs (d + 1) W0 w' e ∧ Below W0.heap.size W0 w' := by
  have h1 := g1.short hd
  have h2 := g2.short hd
  have h3 := g3.short hd
  refine apply_tail (os := [⟨A1, es1, c1⟩, ⟨A2, es2, c2⟩, ⟨A3, es3, c3⟩]) rfl hb ?_ (by simp) ?_
  · intro o ho
    simp only [List.mem_cons, List.not_mem_nil, or_false] at ho
    rcases ho with rfl | rfl | rfl
    · exact ⟨NdsAt_of_own o1, g1.ne, by show es1.length ≤ _; omega⟩
    · exact ⟨NdsAt_of_own o2, g2.ne, by show es2.length ≤ _; omega⟩
    · exact ⟨NdsAt_of_own o3, g3.ne, by show es3.length ≤ _; omega⟩
  · have := Good.tri (by omega) g1 g2 g3 (n := ⟨op, vl0, [], 0⟩) hop.1 hop.2
    simpa [flatO] using this
theorem own_push {B c : Nat} {W : World} {A : Option Addr} {es : List Nd} (n : Nd) (h : W.ownsRow B 53 6 (.slice A (es.length + 1) c) (es.length + 1) (ndCells es ++ n.cells)) : OwnE B W A (es ++ [n]) c := by
  have e : ndCells (es ++ [n]) = ndCells es ++ n.cells := by rw [ndCells_append]; simp [ndCells]
  show W.ownsRow B 53 6 (.slice A (es ++ [n]).length c) (es ++ [n]).length (ndCells (es ++ [n]))
  rw [e, List.length_append]; exact h
/-- How far the position may lie for an expression of depth d. -/
def atB : Nat → Int
  | 0 => 1000000000000
  | d + 1 => atB d / 6 - 1
theorem atB_le : ∀ d, atB d ≤ 1000000000000
  | 0 => Int.le_refl _
  | d + 1 => by have := atB_le d; unfold atB; omega
theorem atB_step {d : Nat} {x : Int} (h : x ≤ atB (d + 1)) : 6 * x + 6 ≤ atB d := by unfold atB at h; omega
/-- base.Expr at depth d. -/
def ExprAt (d : Nat) : Prop := ∀ (kind i : Int) (C : Option Addr) (cs : List Col) (cc : Nat) (L : Option Addr) (l : List Int) (lc : Nat) (W : World), ColsAt W C cs → ColsOk cs → cs.length ≤ 1000 → IntsAt W L l → 0 ≤ i → i ≤ atB d →
    Calls Tryz.prog 26 #[.int .i64 kind, .slice C cs.length cc, .slice L l.length lc, .int .i64 i, .int .i64 (d : Int)] W fun e w' => ExprIs (colNm cs) d W w' e ∧ Below W.heap.size W w'
end Go.Proofs.YtlfedcbihbigoaaGreatDoor

namespace Go.Proofs.YtlfedcbihbigoaaGreatDoor
open Go.RowKit
set_option maxRecDepth 100000 in
set_option maxHeartbeats 4000000 in
theorem base_logical_any (d : Nat) (hd : d ≤ 4) (hI : ExprAt d) (i D : Int) (C : Option Addr) (cs : List Col) (cc : Nat) (L : Option Addr) (l : List Int) (lc : Nat) (w : World) (hC : ColsAt w C cs) (hco : ColsOk cs) (hcl : cs.length ≤ 1000) (hL : IntsAt w L l) (h0 : 0 ≤ i) (h1 : 2 * i + 2 ≤ atB d) (hD : D - 1 = (d : Int)) :
    Calls Tryz.prog 46 #[.slice C cs.length cc, .slice L l.length lc, .int .i64 i, .int .i64 D] w fun e w' => ExprIs (colNm cs) (d + 1) w w' e ∧ Below w.heap.size w w' := by
  have HC := hide hC; have HL := hide hL; have HO := hide hco
  have HE := hide (fun (kind j : Int) (W : World) (hb : Below w.heap.size w W) (j0 : 0 ≤ j) (j1 : j ≤ 2 * i + 2) => hI kind j C cs cc L l lc W (hC.below hb) hco hcl (hL.below hb) j0 (by omega))
  have htop := atB_le d
  clear hC hL hco hI
  have hn0 := lAt_nn l i
  have hn1 := lAt_top l i
  have HAt := hide (base_At_any L l i w lc HL.out)
  generalize lAt l i = n at *
  generalize atB d = T at *
  have k0 : 0 ≤ n / 16 := by omega
  have k1 : n / 16 ≤ 131072 := by omega
  by_cases e0 : n % 9 = 0
  · go_enter Tryz.func46, Tryz.ntmps46
    go_wp2_with (go_at_call 23; refine HAt.out.mono ?_; rintro e w0 ⟨rfl, hq⟩; have hb0 : Below w.heap.size w w0 := (by obtain ⟨q, rfl⟩ := hq; exact below_drewN (Below.refl _ _) q); clear hq HAt)
    refine (HE.out _ _ _ hb0 (by omega) (by omega)).mono ?_
    rintro e w1 ⟨⟨es1, g1, A1, c1, rfl, o1⟩, hb1⟩
    go_wp2_with fail
    refine (apply_un ⟨rfl, rfl⟩ hd (bel2 hb1 hb0) g1 (own_low o1 hb0.size)).mono ?_
    rintro e w3 ⟨⟨es, g, A, c, rfl, own⟩, hb⟩
    go_wp2
    go_ret
    exact ⟨⟨es, g, A, c, rfl, own⟩, hb⟩
  by_cases e1 : n % 9 = 1
  · go_enter Tryz.func46, Tryz.ntmps46
    go_wp2_with (go_at_call 23; refine HAt.out.mono ?_; rintro e w0 ⟨rfl, hq⟩; have hb0 : Below w.heap.size w w0 := (by obtain ⟨q, rfl⟩ := hq; exact below_drewN (Below.refl _ _) q); clear hq HAt)
    refine (HE.out _ _ _ hb0 (by omega) (by omega)).mono ?_
    rintro e w1 ⟨⟨es1, g1, A1, c1, rfl, o1⟩, hb1⟩
    go_wp2_with fail
    refine (HE.out _ _ _ (bel2 hb1 hb0) (by omega) (by omega)).mono ?_
    rintro e w2 ⟨⟨es2, g2, A2, c2, rfl, o2⟩, hb2⟩
    go_wp2_with fail
    refine (apply_bin ⟨rfl, rfl⟩ hd (bel2 hb2 (bel2 hb1 hb0)) g1 (own_low (own_below o1 hb2) hb0.size) g2 (own_low o2 (bel2 hb1 hb0).size)).mono ?_
    rintro e w3 ⟨⟨es, g, A, c, rfl, own⟩, hb⟩
    go_wp2
    go_ret
    exact ⟨⟨es, g, A, c, rfl, own⟩, hb⟩
  by_cases e2 : n % 9 = 2
  · go_enter Tryz.func46, Tryz.ntmps46
    go_wp2_with (go_at_call 23; refine HAt.out.mono ?_; rintro e w0 ⟨rfl, hq⟩; have hb0 : Below w.heap.size w w0 := (by obtain ⟨q, rfl⟩ := hq; exact below_drewN (Below.refl _ _) q); clear hq HAt)
    refine (HE.out _ _ _ hb0 (by omega) (by omega)).mono ?_
    rintro e w1 ⟨⟨es1, g1, A1, c1, rfl, o1⟩, hb1⟩
    go_wp2_with fail
    refine (HE.out _ _ _ (bel2 hb1 hb0) (by omega) (by omega)).mono ?_
    rintro e w2 ⟨⟨es2, g2, A2, c2, rfl, o2⟩, hb2⟩
    go_wp2_with fail
    refine (apply_bin ⟨rfl, rfl⟩ hd (bel2 hb2 (bel2 hb1 hb0)) g1 (own_low (own_below o1 hb2) hb0.size) g2 (own_low o2 (bel2 hb1 hb0).size)).mono ?_
    rintro e w3 ⟨⟨es, g, A, c, rfl, own⟩, hb⟩
    go_wp2
    go_ret
    exact ⟨⟨es, g, A, c, rfl, own⟩, hb⟩
  by_cases e3 : n % 9 = 3
  · go_enter Tryz.func46, Tryz.ntmps46
    go_wp2_with (go_at_call 23; refine HAt.out.mono ?_; rintro e w0 ⟨rfl, hq⟩; have hb0 : Below w.heap.size w w0 := (by obtain ⟨q, rfl⟩ := hq; exact below_drewN (Below.refl _ _) q); clear hq HAt)
    refine (HE.out _ _ _ hb0 (by omega) (by omega)).mono ?_
    rintro e w1 ⟨⟨es1, g1, A1, c1, rfl, o1⟩, hb1⟩
    go_wp2_with fail
    refine (apply_un ⟨rfl, rfl⟩ hd (bel2 hb1 hb0) g1 (own_low o1 hb0.size)).mono ?_
    rintro e w3 ⟨⟨es, g, A, c, rfl, own⟩, hb⟩
    go_wp2
    go_ret
    exact ⟨⟨es, g, A, c, rfl, own⟩, hb⟩
  have f0 : (n % 9 == 0) = false := beq_eq_false_iff_ne.2 e0
  have f1 : (n % 9 == 1) = false := beq_eq_false_iff_ne.2 e1
  have f2 : (n % 9 == 2) = false := beq_eq_false_iff_ne.2 e2
  have f3 : (n % 9 == 3) = false := beq_eq_false_iff_ne.2 e3
  have hop := op_bin (op := 10 + n % 4) (by omega) (by omega)
  clear e0 e1 e2 e3
  · go_enter Tryz.func46, Tryz.ntmps46
    go_wp2_with (go_at_call 23; refine HAt.out.mono ?_; rintro e w0 ⟨rfl, hq⟩; have hb0 : Below w.heap.size w w0 := (by obtain ⟨q, rfl⟩ := hq; exact below_drewN (Below.refl _ _) q); clear hq HAt)
    refine (HE.out _ _ _ hb0 (by omega) (by omega)).mono ?_
    rintro e w1 ⟨⟨es1, g1, A1, c1, rfl, o1⟩, hb1⟩
    go_wp2_with fail
    refine (HE.out _ _ _ (bel2 hb1 hb0) (by omega) (by omega)).mono ?_
    rintro e w2 ⟨⟨es2, g2, A2, c2, rfl, o2⟩, hb2⟩
    go_wp2_with fail
    refine (apply_bin hop hd (bel2 hb2 (bel2 hb1 hb0)) g1 (own_low (own_below o1 hb2) hb0.size) g2 (own_low o2 (bel2 hb1 hb0).size)).mono ?_
    rintro e w3 ⟨⟨es, g, A, c, rfl, own⟩, hb⟩
    go_wp2
    go_ret
    exact ⟨⟨es, g, A, c, rfl, own⟩, hb⟩
end Go.Proofs.YtlfedcbihbigoaaGreatDoor

namespace Go.Proofs.YtlfedcbihbigoaaGreatDoor
open Go.RowKit
set_option maxRecDepth 100000 in
theorem base_Unknown_any (hNode : NodeAny) (A : Option Addr) (es : List Nd) (c : Nat) (C : Option Addr) (cs : List Col) (cc : Nat) (w : World) (hE : NdsAt w A es) (hle : es.length ≤ 1000000) (hx : NamesOk es)
    (hC : ColsAt w C cs) (hcl : cs.length ≤ 1000) : Calls Tryz.prog 48 #[.slice A es.length c, .slice C cs.length cc] w fun e w' => SomeBool e ∧ Below w.heap.size w w' := by
  have HE := hide hE; have HC := hide hC; have HX := hide hx; have HN := hide hNode
  clear hE hC hx hNode
  go_enter Tryz.func48, Tryz.ntmps48
  go_wp2_with fail
  refine (base_Zones_any w).mono ?_
  rintro e w1 ⟨⟨Z, zc, rfl, hZ⟩, hb1⟩
  have HZ := hide hZ
  clear hZ
  go_wp2_with fail
  refine (ref9_Type_any HN.out A es c C cs cc Z 3 zc w1 (HE.out.below hb1) hle HX.out (HC.out.below hb1) (by omega) HZ.out (by omega)).mono ?_
  rintro e w2 ⟨⟨k, b, x, rfl⟩, hb2⟩
  have hb3 := bel2 hb2 hb1
  go_wp2
  all_goals
    go_ret
    exact ⟨⟨_, rfl⟩, hb3⟩
end Go.Proofs.YtlfedcbihbigoaaGreatDoor

namespace Go.Proofs.YtlfedcbihbigoaaGreatDoor
open Go.RowKit
theorem heap_new_at2 : True := trivial
theorem three_zones : ∀ m : Nat, m < 3 → ∃ x : Bytes, [Value.string ⟨#[122, 48]⟩, Value.string ⟨#[122, 49]⟩, Value.string ⟨#[122, 50]⟩][m]? = some (str x) ∧ (⟨20, vl0, x, 0⟩ : Nd).ok = true
  | 0, _ => ⟨[122, 48], rfl, rfl⟩
  | 1, _ => ⟨[122, 49], rfl, rfl⟩
  | 2, _ => ⟨[122, 50], rfl, rfl⟩
  | m + 3, h => absurd h (by omega)
set_option maxRecDepth 100000 in
set_option maxHeartbeats 4000000 in
theorem base_numeric_any (hNode : NodeAny) (d : Nat) (hd : d ≤ 4) (hI : ExprAt d) (i D : Int) (C : Option Addr) (cs : List Col) (cc : Nat) (L : Option Addr) (l : List Int) (lc : Nat) (w : World) (hC : ColsAt w C cs) (hco : ColsOk cs) (hcl : cs.length ≤ 1000) (hL : IntsAt w L l) (h0 : 0 ≤ i) (h1 : 2 * i + 2 ≤ atB d) (hD : D - 1 = (d : Int)) :
    Calls Tryz.prog 47 #[.slice C cs.length cc, .slice L l.length lc, .int .i64 i, .int .i64 D] w fun e w' => ExprIs (colNm cs) (d + 1) w w' e ∧ Below w.heap.size w w' := by
  have HC := hide hC; have HL := hide hL; have HO := hide hco; have HNo := hide hNode
  have HE := hide (fun (kind j : Int) (W : World) (hb : Below w.heap.size w W) (j0 : 0 ≤ j) (j1 : j ≤ 2 * i + 2) => hI kind j C cs cc L l lc W (hC.below hb) hco hcl (hL.below hb) j0 (by omega))
  have htop := atB_le d
  clear hC hL hco hI hNode
  have hn0 := lAt_nn l i
  have hn1 := lAt_top l i
  have HAt := hide (base_At_any L l i w lc HL.out)
  generalize lAt l i = n at *
  generalize atB d = T at *
  have k0 : 0 ≤ n / 9 := by omega
  have k1 : n / 9 ≤ 131072 := by omega
  by_cases e0 : n % 9 = 0
  · go_enter Tryz.func47, Tryz.ntmps47
    go_wp2_with (go_at_call 23; refine HAt.out.mono ?_; rintro e w0 ⟨rfl, hq⟩; have hb0 : Below w.heap.size w w0 := (by obtain ⟨q, rfl⟩ := hq; exact below_drewN (Below.refl _ _) q); clear hq HAt)
    refine (HE.out _ _ _ hb0 (by omega) (by omega)).mono ?_
    rintro e w1 ⟨⟨es1, g1, A1, c1, rfl, o1⟩, hb1⟩
    go_wp2_with fail
    refine (apply_un ⟨rfl, rfl⟩ hd (bel2 hb1 hb0) g1 (own_low o1 hb0.size)).mono ?_
    rintro e w3 ⟨⟨es, g, A, c, rfl, own⟩, hb⟩
    go_wp2
    go_ret
    exact ⟨⟨es, g, A, c, rfl, own⟩, hb⟩
  by_cases e1 : n % 9 = 1
  · go_enter Tryz.func47, Tryz.ntmps47
    go_wp2_with (go_at_call 23; refine HAt.out.mono ?_; rintro e w0 ⟨rfl, hq⟩; have hb0 : Below w.heap.size w w0 := (by obtain ⟨q, rfl⟩ := hq; exact below_drewN (Below.refl _ _) q); clear hq HAt)
    refine (HE.out _ _ _ hb0 (by omega) (by omega)).mono ?_
    rintro e w1 ⟨⟨es1, g1, A1, c1, rfl, o1⟩, hb1⟩
    go_wp2_with fail
    refine (apply_un ⟨rfl, rfl⟩ hd (bel2 hb1 hb0) g1 (own_low o1 hb0.size)).mono ?_
    rintro e w3 ⟨⟨es, g, A, c, rfl, own⟩, hb⟩
    go_wp2
    go_ret
    exact ⟨⟨es, g, A, c, rfl, own⟩, hb⟩
  by_cases e2 : n % 9 = 2
  · obtain ⟨x, hx, hxk⟩ := three_zones (n / 9 % 3).toNat (by omega)
    obtain ⟨i0, hi, hz0, hz1, hz2⟩ := info_parts Tryz.info_nd
    go_enter Tryz.func47, Tryz.ntmps47
    go_wp2_with (go_at_call 23; refine HAt.out.mono ?_; rintro e w0 ⟨rfl, hq⟩; have hb0 : Below w.heap.size w w0 := (by obtain ⟨q, rfl⟩ := hq; exact below_drewN (Below.refl _ _) q); clear hq HAt)
    have hsz0 := hb0.size
    obtain ⟨hxl, hx2⟩ := List.getElem?_eq_some_iff.1 hx
    have ht1 : n.tdiv 9 = n / 9 := Int.tdiv_eq_ediv_of_nonneg hn0
    have hw9 : IntKind.i64.wrap (n / 9) = n / 9 := IntWalk.i64_in _ (by omega)
    have ht2 : (n / 9).tmod 3 = n / 9 % 3 := Int.tmod_eq_emod_of_nonneg k0
    have hm0 : 0 ≤ n / 9 % 3 := by omega
    have hm1 : n / 9 % 3 < 3 := by omega
    have hwd : IntKind.i64.wrap (d : Int) = (d : Int) := IntWalk.i64_in _ (by omega)
    first | (go_region_law (first
      | (go_simp; go_at_call 26; refine (HE.out _ _ _ (by (repeat (first | exact Below.refl _ _ | assumption | refine Below.drew ?_ | refine below_drewN ?_ _ | refine Below.alloc ?_ (by first | omega | simp <;> omega) _ | refine Below.setCell ?_ (by first | omega | simp <;> omega) _))) (by omega) (by omega)).mono ?_; rintro e w1 ⟨⟨es1, g1, A1, c1, rfl, o1⟩, hb1⟩; have hbw : Below w.heap.size w w1 := Below.trans (by (repeat (first | exact Below.refl _ _ | assumption | refine Below.drew ?_ | refine below_drewN ?_ _ | refine Below.alloc ?_ (by first | omega | simp <;> omega) _ | refine Below.setCell ?_ (by first | omega | simp <;> omega) _))) (hb1.mono (by first | omega | (simp; done) | (simp; omega))); have hbw0 : Below w0.heap.size w0 w1 := Below.trans (by (repeat (first | exact Below.refl _ _ | assumption | refine Below.drew ?_ | refine below_drewN ?_ _ | refine Below.alloc ?_ (by first | omega | simp <;> omega) _ | refine Below.setCell ?_ (by first | omega | simp <;> omega) _))) (hb1.mono (by first | (simp; done) | (simp; omega))); have o2 := own_low (b2 := w.heap.size) o1 (by first | (simp; done) | (simp; omega)); have hg := g1.short hd; have hsz1 := hbw0.size;
         (first
           | (have q9 := hb1.block (w0.heap.size + 1) (by (simp; done)); have hxb : w1.heap[w0.heap.size + 1]? = some (.cells #[.int .i64 20, .int .i64 0, .int .i64 0, str [], str x, .int .i64 0] 53) := q9.trans (heap_new_at (by simp)))
           | (have q8 := hb1.block w0.heap.size (by (simp; done)); have hxb : w1.heap[w0.heap.size]? = some (.cells #[Value.string ⟨#[122, 48]⟩, Value.string ⟨#[122, 49]⟩, Value.string ⟨#[122, 50]⟩] 9) := q8.trans (heap_alloc_new w0 _); have hxc : w1.cell? ⟨w0.heap.size, (n / 9 % 3).toNat, none⟩ = some (str x) := (by rw [cell_of_heap hxb]; simpa using hx))
           | skip))
      | (refine step_append_lies _ (by rfl) (.tmp 52) (.tmp 60) 30 (by rfl) w.heap.size 53 i0 _ 6 64 Tryz.underlying30 hi hz0 hz1 hz2 rfl (by omega) _ _ _ (by rfl) (own_below o2 (by (repeat (first | exact Below.refl _ _ | assumption | refine Below.drew ?_ | refine below_drewN ?_ _ | refine Below.alloc ?_ (by first | omega | simp <;> omega) _ | refine Below.setCell ?_ (by first | omega | simp <;> omega) _)))) ⟨_, 0, none⟩ 1 1 [.int .i64 20, .int .i64 0, .int .i64 0, str [], str x, .int .i64 0] (by rfl) (by rfl) (by first | exact cells_6 hxb | exact cells_6 (heap_new_at (by simp))) (by simp [Value.oneCell']) (by omega) (by unfold maxLen; omega) (by omega) (by first | omega | (simp; done) | (simp; omega)) _ (by rfl) ?_; intro gg cap w3 hown3 hgrow hat hlt))) | fail
    all_goals
      have hb9 : Below w.heap.size w w3 := (show Below w.heap.size w _ from by (repeat (first | exact Below.refl _ _ | assumption | refine Below.drew ?_ | refine below_drewN ?_ _ | refine Below.alloc ?_ (by first | omega | simp <;> omega) _ | refine Below.setCell ?_ (by first | omega | simp <;> omega) _))).grown hgrow (by first | omega | (simp; omega)) (fun k hk => (o2.lt k hk).1)
      have HP := hide (own_push ⟨20, vl0, x, 0⟩ hown3)
      clear hown3 hgrow
      go_wp2
      refine bodyPost_ret (v := .slice (some ⟨gg, 0, none⟩) (es1.length + 1) cap) (by simp [results, Tryz.results47, go_sem]) rfl ⟨⟨es1 ++ [⟨20, vl0, x, 0⟩], Good.un (by omega) g1 hxk rfl, some ⟨gg, 0, none⟩, cap, by simp, HP.out⟩, hb9⟩
  by_cases e3 : n % 9 = 3
  · go_enter Tryz.func47, Tryz.ntmps47
    go_wp2_with (go_at_call 23; refine HAt.out.mono ?_; rintro e w0 ⟨rfl, hq⟩; have hb0 : Below w.heap.size w w0 := (by obtain ⟨q, rfl⟩ := hq; exact below_drewN (Below.refl _ _) q); clear hq HAt)
    refine (HE.out _ _ _ hb0 (by omega) (by omega)).mono ?_
    rintro e w1 ⟨⟨es1, g1, A1, c1, rfl, o1⟩, hb1⟩
    go_wp2_with fail
    refine (HE.out _ _ _ (bel2 hb1 hb0) (by omega) (by omega)).mono ?_
    rintro e w2 ⟨⟨es2, g2, A2, c2, rfl, o2⟩, hb2⟩
    go_wp2_with fail
    have hl2 := g2.short hd
    have hbw2 := bel2 hb2 (bel2 hb1 hb0)
    refine (base_Unknown_any HNo.out A2 es2 c2 C cs cc w2 (NdsAt_of_own o2) (by omega) g2.names (HC.out.below hbw2) hcl).mono ?_
    rintro e w4 ⟨⟨b, rfl⟩, hb4⟩
    have hbw4 := bel2 hb4 hbw2
    cases b
    · go_wp2_with fail
      refine (apply_bin ⟨rfl, rfl⟩ hd hbw4 g1 (own_low (own_below (own_below o1 hb2) hb4) hb0.size) g2 (own_low (own_below o2 hb4) (bel2 hb1 hb0).size)).mono ?_
      rintro e w3 ⟨⟨es, g, A, c, rfl, own⟩, hb⟩
      go_wp2
      go_ret
      exact ⟨⟨es, g, A, c, rfl, own⟩, hb⟩
    · go_wp2_with fail
      refine (base_leaf_any _ _ C cs cc _ (HC.out.below hbw4) HO.out hcl (by omega) (by omega)).mono ?_
      rintro e w3 ⟨⟨m, hm1, hm2, hm3, A, c, rfl, own⟩, hb⟩
      go_wp2
      go_ret
      exact ⟨⟨[m], Good.leaf _ hm1 hm2 hm3, A, c, rfl, own_low own hbw4.size⟩, bel2 hb hbw4⟩
  have f0 : (n % 9 == 0) = false := beq_eq_false_iff_ne.2 e0
  have f1 : (n % 9 == 1) = false := beq_eq_false_iff_ne.2 e1
  have f2 : (n % 9 == 2) = false := beq_eq_false_iff_ne.2 e2
  have f3 : (n % 9 == 3) = false := beq_eq_false_iff_ne.2 e3
  have hop := op_bin (op := 4 + n / 9 % 5) (by omega) (by omega)
  clear e0 e1 e2 e3
  · go_enter Tryz.func47, Tryz.ntmps47
    go_wp2_with (go_at_call 23; refine HAt.out.mono ?_; rintro e w0 ⟨rfl, hq⟩; have hb0 : Below w.heap.size w w0 := (by obtain ⟨q, rfl⟩ := hq; exact below_drewN (Below.refl _ _) q); clear hq HAt)
    refine (HE.out _ _ _ hb0 (by omega) (by omega)).mono ?_
    rintro e w1 ⟨⟨es1, g1, A1, c1, rfl, o1⟩, hb1⟩
    go_wp2_with fail
    refine (HE.out _ _ _ (bel2 hb1 hb0) (by omega) (by omega)).mono ?_
    rintro e w2 ⟨⟨es2, g2, A2, c2, rfl, o2⟩, hb2⟩
    go_wp2_with fail
    refine (apply_bin hop hd (bel2 hb2 (bel2 hb1 hb0)) g1 (own_low (own_below o1 hb2) hb0.size) g2 (own_low o2 (bel2 hb1 hb0).size)).mono ?_
    rintro e w3 ⟨⟨es, g, A, c, rfl, own⟩, hb⟩
    go_wp2
    go_ret
    exact ⟨⟨es, g, A, c, rfl, own⟩, hb⟩
end Go.Proofs.YtlfedcbihbigoaaGreatDoor

namespace Go.Proofs.YtlfedcbihbigoaaGreatDoor
open Go.RowKit
set_option maxRecDepth 100000 in
set_option maxHeartbeats 2000000 in
theorem base_Expr_zero : ExprAt 0 := by
  intro kind i C cs cc L l lc w hC hco hcl hL h0 h1
  have HC := hide hC; have HL := hide hL; have HO := hide hco
  clear hC hL hco
  have htop := atB_le 0
  have hn0 := lAt_nn l i
  have hn1 := lAt_top l i
  have HAt := hide (base_At_any L l i w lc HL.out)
  generalize lAt l i = n at *
  generalize atB 0 = T at *
  have k0 : 0 ≤ n / 5 := by omega
  have k1 : n / 5 ≤ 131072 := by omega
  go_enter Tryz.func26, Tryz.ntmps26
  go_wp2_with (go_at_call 23; refine HAt.out.mono ?_; rintro e w0 ⟨rfl, hq⟩; have hb0 : Below w.heap.size w w0 := (by obtain ⟨q, rfl⟩ := hq; exact below_drewN (Below.refl _ _) q); clear hq HAt)
  refine (base_leaf_any _ _ C cs cc _ (HC.out.below hb0) HO.out hcl (by omega) (by omega)).mono ?_
  rintro e w3 ⟨⟨m, hm1, hm2, hm3, A, c, rfl, own⟩, hb⟩
  go_wp2
  go_ret
  exact ⟨⟨[m], Good.leaf _ hm1 hm2 hm3, A, c, rfl, own_low own hb0.size⟩, bel2 hb hb0⟩
set_option maxRecDepth 100000 in
set_option maxHeartbeats 4000000 in
theorem base_Expr_succ (hNode : NodeAny) (d : Nat) (hd : d ≤ 3) (hI : ExprAt d) : ExprAt (d + 1) := by
  intro kind i C cs cc L l lc w hC hco hcl hL h0 h1
  have h2 := atB_step h1
  have HC := hide hC; have HL := hide hL; have HO := hide hco; have HNo := hide hNode
  have HE := hide (fun (kind j : Int) (W : World) (hb : Below w.heap.size w W) (j0 : 0 ≤ j) (j1 : j ≤ 6 * i + 6) => hI kind j C cs cc L l lc W (hC.below hb) hco hcl (hL.below hb) j0 (by omega))
  have HLo := hide (fun (D : Int) (W : World) (hb : Below w.heap.size w W) (hD : D - 1 = (d : Int)) => base_logical_any d (by omega) hI (3 * i + 1) D C cs cc L l lc W (hC.below hb) hco hcl (hL.below hb) (by omega) (by omega) hD)
  have HNu := hide (fun (D : Int) (W : World) (hb : Below w.heap.size w W) (hD : D - 1 = (d : Int)) => base_numeric_any hNode d (by omega) hI (3 * i + 1) D C cs cc L l lc W (hC.below hb) hco hcl (hL.below hb) (by omega) (by omega) hD)
  have htop := atB_le d
  clear hC hL hco hI hNode h1
  have hn0 := lAt_nn l i
  have hn1 := lAt_top l i
  have HAt := hide (base_At_any L l i w lc HL.out)
  generalize lAt l i = n at *
  generalize atB d = T at *
  have k0 : 0 ≤ n / 5 := by omega
  have k1 : n / 5 ≤ 131072 := by omega
  obtain ⟨D, hDd⟩ : ∃ D : Int, D = ((d + 1 : Nat) : Int) := ⟨_, rfl⟩
  have hD : D - 1 = (d : Int) := by omega
  have hD0 : 0 < D := by omega
  have hD4 : D ≤ 4 := by omega
  have hDz : decide (D ≤ 0) = false := by simp; omega
  rw [← hDd]
  have hd : d ≤ 4 := by omega
  clear hDd
  by_cases e0 : n % 5 = 0
  · go_enter Tryz.func26, Tryz.ntmps26
    go_wp2_with (go_at_call 23; refine HAt.out.mono ?_; rintro e w0 ⟨rfl, hq⟩; have hb0 : Below w.heap.size w w0 := (by obtain ⟨q, rfl⟩ := hq; exact below_drewN (Below.refl _ _) q); clear hq HAt)
    refine (base_leaf_any _ _ C cs cc _ (HC.out.below hb0) HO.out hcl (by omega) (by omega)).mono ?_
    rintro e w3 ⟨⟨m, hm1, hm2, hm3, A, c, rfl, own⟩, hb⟩
    go_wp2
    go_ret
    exact ⟨⟨[m], Good.leaf _ hm1 hm2 hm3, A, c, rfl, own_low own hb0.size⟩, bel2 hb hb0⟩
  have f0 : (n % 5 == 0) = false := beq_eq_false_iff_ne.2 e0
  by_cases e1 : n % 5 = 1
  · go_enter Tryz.func26, Tryz.ntmps26
    go_wp2_with (go_at_call 23; refine HAt.out.mono ?_; rintro e w0 ⟨rfl, hq⟩; have hb0 : Below w.heap.size w w0 := (by obtain ⟨q, rfl⟩ := hq; exact below_drewN (Below.refl _ _) q); clear hq HAt)
    refine (HE.out _ _ _ hb0 (by omega) (by omega)).mono ?_
    rintro e w1 ⟨⟨es1, g1, A1, c1, rfl, o1⟩, hb1⟩
    go_wp2_with fail
    refine (HE.out _ _ _ (bel2 hb1 hb0) (by omega) (by omega)).mono ?_
    rintro e w2 ⟨⟨es2, g2, A2, c2, rfl, o2⟩, hb2⟩
    go_wp2_with fail
    refine (HE.out _ _ _ (bel2 hb2 (bel2 hb1 hb0)) (by omega) (by omega)).mono ?_
    rintro e w4 ⟨⟨es4, g4, A4, c4, rfl, o4⟩, hb4⟩
    go_wp2_with fail
    refine (apply_tri ⟨rfl, rfl⟩ hd (bel2 hb4 (bel2 hb2 (bel2 hb1 hb0))) g1 (own_low (own_below (own_below o1 hb2) hb4) hb0.size) g2 (own_low (own_below o2 hb4) (bel2 hb1 hb0).size) g4 (own_low o4 (bel2 hb2 (bel2 hb1 hb0)).size)).mono ?_
    rintro e w3 ⟨⟨es, g, A, c, rfl, own⟩, hb⟩
    go_wp2
    go_ret
    exact ⟨⟨es, g, A, c, rfl, own⟩, hb⟩
  have f1 : (n % 5 == 1) = false := beq_eq_false_iff_ne.2 e1
  by_cases e2 : n % 5 = 2
  · go_enter Tryz.func26, Tryz.ntmps26
    go_wp2_with (go_at_call 23; refine HAt.out.mono ?_; rintro e w0 ⟨rfl, hq⟩; have hb0 : Below w.heap.size w w0 := (by obtain ⟨q, rfl⟩ := hq; exact below_drewN (Below.refl _ _) q); clear hq HAt)
    refine (HE.out _ _ _ hb0 (by omega) (by omega)).mono ?_
    rintro e w1 ⟨⟨es1, g1, A1, c1, rfl, o1⟩, hb1⟩
    go_wp2_with fail
    refine (HE.out _ _ _ (bel2 hb1 hb0) (by omega) (by omega)).mono ?_
    rintro e w2 ⟨⟨es2, g2, A2, c2, rfl, o2⟩, hb2⟩
    go_wp2_with fail
    refine (apply_bin ⟨rfl, rfl⟩ hd (bel2 hb2 (bel2 hb1 hb0)) g1 (own_low (own_below o1 hb2) hb0.size) g2 (own_low o2 (bel2 hb1 hb0).size)).mono ?_
    rintro e w3 ⟨⟨es, g, A, c, rfl, own⟩, hb⟩
    go_wp2
    go_ret
    exact ⟨⟨es, g, A, c, rfl, own⟩, hb⟩
  have f2 : (n % 5 == 2) = false := beq_eq_false_iff_ne.2 e2
  clear e0 e1 e2
  by_cases r1 : kind = 1
  · subst r1
    go_enter Tryz.func26, Tryz.ntmps26
    go_wp2_with (go_at_call 23; refine HAt.out.mono ?_; rintro e w0 ⟨rfl, hq⟩; have hb0 : Below w.heap.size w w0 := (by obtain ⟨q, rfl⟩ := hq; exact below_drewN (Below.refl _ _) q); clear hq HAt)
    refine (HLo.out _ _ hb0 hD).mono ?_
    rintro e w3 ⟨⟨es, g, A, c, rfl, own⟩, hb⟩
    go_wp2
    go_ret
    exact ⟨⟨es, g, A, c, rfl, own_low own hb0.size⟩, bel2 hb hb0⟩
  have s1 : (kind == 1) = false := beq_eq_false_iff_ne.2 r1
  by_cases r2 : kind = 2
  · subst r2
    go_enter Tryz.func26, Tryz.ntmps26
    go_wp2_with (go_at_call 23; refine HAt.out.mono ?_; rintro e w0 ⟨rfl, hq⟩; have hb0 : Below w.heap.size w w0 := (by obtain ⟨q, rfl⟩ := hq; exact below_drewN (Below.refl _ _) q); clear hq HAt)
    refine (HNu.out _ _ hb0 hD).mono ?_
    rintro e w3 ⟨⟨es, g, A, c, rfl, own⟩, hb⟩
    go_wp2
    go_ret
    exact ⟨⟨es, g, A, c, rfl, own_low own hb0.size⟩, bel2 hb hb0⟩
  have s2 : (kind == 2) = false := beq_eq_false_iff_ne.2 r2
  by_cases r3 : kind = 3
  · subst r3
    go_enter Tryz.func26, Tryz.ntmps26
    go_wp2_with (go_at_call 23; refine HAt.out.mono ?_; rintro e w0 ⟨rfl, hq⟩; have hb0 : Below w.heap.size w w0 := (by obtain ⟨q, rfl⟩ := hq; exact below_drewN (Below.refl _ _) q); clear hq HAt)
    refine (HE.out _ _ _ hb0 (by omega) (by omega)).mono ?_
    rintro e w1 ⟨⟨es1, g1, A1, c1, rfl, o1⟩, hb1⟩
    go_wp2_with fail
    refine (HE.out _ _ _ (bel2 hb1 hb0) (by omega) (by omega)).mono ?_
    rintro e w2 ⟨⟨es2, g2, A2, c2, rfl, o2⟩, hb2⟩
    go_wp2_with fail
    refine (apply_bin ⟨rfl, rfl⟩ hd (bel2 hb2 (bel2 hb1 hb0)) g1 (own_low (own_below o1 hb2) hb0.size) g2 (own_low o2 (bel2 hb1 hb0).size)).mono ?_
    rintro e w3 ⟨⟨es, g, A, c, rfl, own⟩, hb⟩
    go_wp2
    go_ret
    exact ⟨⟨es, g, A, c, rfl, own⟩, hb⟩
  have s3 : (kind == 3) = false := beq_eq_false_iff_ne.2 r3
  clear r1 r2 r3
  have hop := op_bin (op := 4 + n / 5 % 2) (by omega) (by omega)
  · go_enter Tryz.func26, Tryz.ntmps26
    go_wp2_with (go_at_call 23; refine HAt.out.mono ?_; rintro e w0 ⟨rfl, hq⟩; have hb0 : Below w.heap.size w w0 := (by obtain ⟨q, rfl⟩ := hq; exact below_drewN (Below.refl _ _) q); clear hq HAt)
    refine (HE.out _ _ _ hb0 (by omega) (by omega)).mono ?_
    rintro e w1 ⟨⟨es1, g1, A1, c1, rfl, o1⟩, hb1⟩
    go_wp2_with fail
    have hl1 := g1.short hd
    have hbw1 := bel2 hb1 hb0
    refine (base_Unknown_any HNo.out A1 es1 c1 C cs cc w1 (NdsAt_of_own o1) (by omega) g1.names (HC.out.below hbw1) hcl).mono ?_
    rintro e w4 ⟨⟨b, rfl⟩, hb4⟩
    have hbw4 := bel2 hb4 hbw1
    cases b
    · go_wp2_with fail
      refine (HE.out _ _ _ hbw4 (by omega) (by omega)).mono ?_
      rintro e w2 ⟨⟨es2, g2, A2, c2, rfl, o2⟩, hb2⟩
      go_wp2_with fail
      refine (apply_bin hop hd (bel2 hb2 hbw4) g1 (own_low (own_below (own_below o1 hb4) hb2) hb0.size) g2 (own_low o2 hbw4.size)).mono ?_
      rintro e w3 ⟨⟨es, g, A, c, rfl, own⟩, hb⟩
      go_wp2
      go_ret
      exact ⟨⟨es, g, A, c, rfl, own⟩, hb⟩
    · go_wp2
      go_ret
      exact ⟨⟨es1, g1.mono, A1, c1, rfl, own_low (own_below o1 hb4) hb0.size⟩, hbw4⟩
theorem base_Expr_any (hNode : NodeAny) : ∀ d : Nat, d ≤ 4 → ExprAt d
  | 0, _ => base_Expr_zero
  | d + 1, h => base_Expr_succ hNode d (by omega) (base_Expr_any hNode d (by omega))
end Go.Proofs.YtlfedcbihbigoaaGreatDoor
