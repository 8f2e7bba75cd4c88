/- Parts of the proof. -/
import Derived.Laws.OwnMore
import Derived.Test.YtnpjibaolicbmaaGreatDoorPp35
import Derived.Test.YtnpjibaolicbmaaGreatDoorPp40
import Derived.Test.YtnpjibaolicbmaaGreatDoorPp25
set_option linter.unusedVariables false
set_option linter.unusedSimpArgs false
set_option maxHeartbeats 8000000
namespace Go.Proofs.YtnpjibaolicbmaaGreatDoor
open Go.Proofs.Tryz
open Go.RowKit
theorem g_m {P : Program} {w : World} (base : Nat) (t ty e : TypeId) (i : TypeInfo) (size c : Nat) (ht : P.underlying t = some (.slice e)) (hi : P.info? e = some i)
  (v : Value) (n : Nat) (xs : List Value) (hown : w.ownsRow base e size v n xs) : (Builtin.append_ #[t, t] ty #[v, .slice none 0 c]).run P w = .ok v w := by
 rcases hown.2 with ⟨rfl, rfl⟩ | ⟨g, cap, cur, rfl, _, _, hnc, _⟩
 ·simp [Builtin.append_, run_underlying ht, sizeOf, typeInfo, hi, Builtin.lenOf, Builtin.firstCells]
 ·simp [Builtin.append_, run_underlying ht, sizeOf, typeInfo, hi, Builtin.lenOf, Builtin.firstCells, hnc, storeCells]
theorem n_n (g off j : Nat) : (⟨g, off, none⟩ : Addr).add j = ⟨g, off + j, none⟩ := by cases j <;> simp [Addr.add]
def j_2 (w : World) (A : Option Addr) (n : Nat) (news : List Value) : Prop := (n = 0 ∧ news = []) ∨ ∃ g off, A = some ⟨g, off, none⟩ ∧ g < w.heap.size ∧ ∀ j u, news[j]? = some u → w.cell? ⟨g, off + j, none⟩ = some u
theorem j_2.below {w w' : World} {A : Option Addr} {n : Nat} {news : List Value} (h : j_2 w A n news) (hb : Below w.heap.size w w') : j_2 w' A n news := by
 rcases h with h | ⟨g, off, hA, hg, hc⟩
 ·exact .inl h
 ·exact .inr ⟨g, off, hA, Nat.lt_of_lt_of_le hg hb.size, fun j u hu => (hb.cell (p := ⟨g, _, none⟩) hg).trans (hc j u hu)⟩
theorem l_H.kept : g_j l_H := fun _ _ _ _ ⟨a, h, e⟩ hb => ⟨a, h.below hb, e⟩
theorem n_R.kept : g_j n_R := fun _ _ _ _ e _ => e
theorem j_o {P : Program} {w : World} (t ty e : TypeId) (i : TypeInfo) (z : Value) (size bytes : Nat) (ht : P.underlying t = some (.slice e)) (hi : P.info? e = some i) (hz : i.zero = some z) (h4 : i.size = size) (h5 : i.bytes = bytes) (h6 : z.cells.size = size) (h7 : 0 < size)
  (A : Option Addr) (n c : Nat) (news : List Value) (hr : j_2 w A n news) (hA : A = none ∨ ∃ a, A = some a) (hl : news.length = n * size) (h1 : ∀ u ∈ news, u.oneCell' = true) (b1 : n ≤ maxLen) (b2 : n * bytes ≤ 140737488355328) :
  ∃ A' c' w', (Builtin.append_ #[t, t] ty #[.slice none 0 0, .slice A n c]).run P w = .ok (.slice A' n c') w' ∧ w'.ownsRow w.heap.size e size (.slice A' n c') n news ∧ Below w.heap.size w w' := by
 have h0 := World.ownsRow_nil w w.heap.size e size
 rcases hA with rfl | ⟨ad, rfl⟩
 ·rcases hr with ⟨rfl, rfl⟩ | ⟨g, off, h, _, _⟩
  ·exact ⟨none, 0, w, g_m w.heap.size t ty e i size c ht hi _ 0 [] h0, h0, b_ _ _⟩
  ·cases h
 ·have hc : ∀ j u, news[j]? = some u → w.cell? (ad.add j) = some u := by
   rcases hr with ⟨rfl, rfl⟩ | ⟨g, off, h, _, hc⟩
   ·intro j u hu; simp at hu
   ·obtain rfl := Option.some.inj h
    intro j u hu; rw [n_n]; exact hc j u hu
  obtain ⟨v', w', hrun, r1, r2, _⟩ := run_append_own (P := P) w w.heap.size t ty e i z size bytes ht hi hz h4 h5 h6 h7 (.slice none 0 0) 0 [] h0 ad n c news hl hc h1 (by rw [Nat.zero_add]; exact b1) (by rw [Nat.zero_add]; exact b2) (l_ _)
  obtain ⟨A', c', rfl⟩ := a_j r1
  rw [Nat.zero_add] at hrun r1
  exact ⟨A', c', w', hrun, r1, (b_ _ _).grown r2 (l_ _) (fun k h => by cases h)⟩
theorem b_y {P : Program} (w : World) {ops : Array Oper} {rest : List Oper} {o : Oper} {a : Act} {Q : Exit → Act → World → Prop} (hg : o.guard = none) (x : Operand) (t : TypeId) (hop : o.op = Op.call { callee := Callee.builtin Builtin.append, args := #[.const (.slice none 0 0), x], argTypes := #[t, t] })
  (e : TypeId) (i : TypeInfo) (z : Value) (size bytes : Nat) (ht : P.underlying t = some (.slice e)) (hi : P.info? e = some i) (hz : i.zero = some z) (h4 : i.size = size) (h5 : i.bytes = bytes) (h6 : z.cells.size = size) (h7 : 0 < size)
  (A : Option Addr) (n c : Nat) (news : List Value) (hx : a.eval x = .slice A n c) (hr : j_2 w A n news) (hl : news.length = n * size) (h1 : ∀ u ∈ news, u.oneCell' = true) (b1 : n ≤ maxLen) (b2 : n * bytes ≤ 140737488355328)
  (hK : ∀ A' c' w', w'.ownsRow w.heap.size e size (.slice A' n c') n news → Below w.heap.size w w' → wpList P ops Q rest (a.put o.dst (.slice A' n c')) w') : wpList P ops Q (o :: rest) a w := by
 refine wpList_plain hg fun K hK' => ?_
 obtain ⟨A', c', w', hrun, r1, r2⟩ := j_o (P := P) (w := w) t o.type e i z size bytes ht hi hz h4 h5 h6 h7 A n c news hr (by cases A <;> simp) hl h1 b1 b2
 unfold Oper.wp
 have h0 : a.eval (.const (.slice none 0 0)) = .slice none 0 0 := rfl
 simp [execOp, hop, resolve, invoke, builtin, h0, hx, hrun, Result.andThen]
 exact hK' _ _ (hK A' c' w' r1 r2)
theorem e_4 {o : Oper} {a : Act} {w : World} {K : Value → World → Prop} (x : Operand) (t : TypeId) (hop : o.op = Op.call { callee := Callee.builtin Builtin.append, args := #[.const (.slice none 0 0), x], argTypes := #[t, t] })
  (e : TypeId) (i : TypeInfo) (z : Value) (size bytes : Nat) (ht : prog.underlying t = some (.slice e)) (hi : prog.info? e = some i) (hz : i.zero = some z) (h4 : i.size = size) (h5 : i.bytes = bytes) (h6 : z.cells.size = size) (h7 : 0 < size)
  (A : Option Addr) (n c : Nat) (news : List Value) (hx : a.eval x = .slice A n c) (hr : j_2 w A n news) (hl : news.length = n * size) (h1 : ∀ u ∈ news, u.oneCell' = true) (b1 : n ≤ maxLen) (b2 : n * bytes ≤ 140737488355328)
  (hK : ∀ A' c' w', w'.ownsRow w.heap.size e size (.slice A' n c') n news → Below w.heap.size w w' → K (.slice A' n c') w') : a_e prog o a w K := by
 obtain ⟨A', c', w', hrun, r1, r2⟩ := j_o (P := prog) (w := w) t o.type e i z size bytes ht hi hz h4 h5 h6 h7 A n c news hr (by cases A <;> simp) hl h1 b1 b2
 refine a_e.val (v := .slice A' n c') (w' := w') ?_ (hK A' c' w' r1 r2)
 have h0 : a.eval (.const (.slice none 0 0)) = .slice none 0 0 := rfl
 simp [execOp, hop, resolve, invoke, builtin, h0, hx, hrun, Result.andThen]
theorem k_R {w : World} {A : Option Addr} {l : List Stp} (h : b_L w A l) : a_l 6 l_H w A l := by
 rcases h with h | ⟨g, off, hA, hg, hc⟩
 ·exact .inl h
 ·refine .inr ⟨g, off, hA, hg, fun i hi => ?_⟩
  obtain ⟨a, h1, c0, c1, c2, c3, c4, c5⟩ := hc i hi
  refine ⟨l[i].cells a, ⟨a, h1, rfl⟩, fun j hj => ?_⟩
  have hj' : j < 6 := hj
  match j, hj' with
  | 0, _ => exact c0
  | 1, _ => exact c1
  | 2, _ => exact c2
  | 3, _ => exact c3
  | 4, _ => exact c4
  | 5, _ => exact c5
structure RowOf {α : Type} (k : Nat) (C : Cel α) : Prop where
 len : ∀ w x v, C w x v → v.length = k
 one : ∀ w x v, C w x v → ∀ u ∈ v, u.oneCell' = true
theorem b_j {α : Type} {k : Nat} {C : Cel α} {w : World} {A : Option Addr} {xs : List α} (hC : RowOf k C) (h : a_l k C w A xs) : ∃ vss, RowsIn k C w xs vss ∧ j_2 w A xs.length vss.flatten ∧ vss.flatten.length = xs.length * k ∧ ∀ u ∈ vss.flatten, u.oneCell' = true := by
 obtain ⟨vss, h1, h2⟩ := l_I hC.len h
 refine ⟨vss, h1, ?_, by rw [g_6 vss h1.row, h1.len], fun u hu => ?_⟩
 ·rcases h2 with rfl | ⟨g, off, hA, hg, hc⟩
  ·have := h1.len
   obtain rfl : vss = [] := List.eq_nil_of_length_eq_zero (by simpa using this); exact .inl ⟨rfl, rfl⟩
  ·exact .inr ⟨g, off, hA, hg, hc⟩
 ·obtain ⟨v, hv, hu⟩ := List.mem_flatten.1 hu
  obtain ⟨j, hj, rfl⟩ := List.mem_iff_getElem.1 hv
  exact hC.one _ _ _ (h1.tell j (by have := h1.len; omega) hj) u hu
theorem o_L : RowOf 6 l_H := ⟨fun w x v ⟨a, _, e⟩ => by rw [e]; rfl, fun w x v ⟨a, _, e⟩ => by rw [e]; simp [Stp.cells, Value.oneCell']⟩
theorem p_C : RowOf 3 g_a := ⟨fun w x v ⟨a, _, e⟩ => by rw [e]; rfl, fun w x v ⟨a, _, e⟩ => by rw [e]; simp [Zon.cells, Value.oneCell']⟩
theorem l_G : RowOf 7 h_f := ⟨fun w x v ⟨a, b, _, _, e⟩ => by rw [e]; rfl, fun w x v ⟨a, b, _, _, e⟩ => by rw [e]; simp [Srx.cells, Value.oneCell']⟩
theorem p_w : RowOf 3 f_J := ⟨fun w x v ⟨a, b, _, _, e⟩ => by rw [e]; rfl, fun w x v ⟨a, b, _, _, e⟩ => by rw [e]; simp [Mac.cells, Value.oneCell']⟩
theorem j_D : RowOf 8 f_I := ⟨fun w x v ⟨a, b, _, _, e⟩ => by rw [e]; rfl, fun w x v ⟨a, b, _, _, e⟩ => by rw [e]; simp [Mdl.cells, Value.oneCell']⟩
theorem p_a : RowOf 2 i_i := ⟨fun w x v e => by rw [show v = x.cells from e]; rfl, fun w x v e => by rw [show v = x.cells from e]; simp [Snp.cells, Value.oneCell']⟩
theorem o_R : RowOf 14 f_h := ⟨fun w x v ⟨a, b, c, _, _, _, e⟩ => by rw [e]; rfl, fun w x v ⟨a, b, c, _, _, _, e⟩ => by rw [e]; simp [Chk.cells, Value.oneCell']⟩
theorem p_i : RowOf 8 f_g := ⟨fun w x v ⟨a, b, _, _, e⟩ => by rw [e]; rfl, fun w x v ⟨a, b, _, _, e⟩ => by rw [e]; simp [Mdu.cells, Dfs.cells, Value.oneCell']⟩
theorem p_A : RowOf 1 n_R := ⟨fun w x v e => by rw [show v = [str x] from e]; rfl, fun w x v e => by rw [show v = [str x] from e]; simp [Value.oneCell']⟩
theorem l_j {w : World} {A : Option Addr} {l : List a_3} (h : b_b w A l) : a_l 1 n_R w A l := by
 rcases h with h | ⟨g, off, hA, hg, hc⟩
 ·exact .inl h
 ·refine .inr ⟨g, off, hA, hg, fun i hi => ⟨[str l[i]], rfl, fun j hj => ?_⟩⟩
  obtain rfl : j = 0 := by simp at hj; omega
  simpa using hc i hi
theorem i_F (a : Int) : a = a_c a 0 := by
 unfold a_c
 split
 ·assumption
 ·rfl
theorem d_f {α : Type} {f : α → a_3} {xs : List α} {before : List a_3} {good : a_3 → Bool} {own : Nat → Int} {rest : Int} (h : 64 < xs.length) : a_c (a_A before (xs.map f) good own) rest = 2 := by
 unfold a_A
 rw [if_pos (by simpa using h)]
 exact a_h d_
theorem e_5 {α : Type} {f : α → a_3} {xs : List α} {before : List a_3} {good : a_3 → Bool} {own : Nat → Int} (h : ¬ 64 < xs.length) : a_A before (xs.map f) good own = a_o (c_S before (xs.map f) good own) xs.length := by
 unfold a_A
 rw [if_neg (by simpa using h), List.length_map]
def e_V (d : Dfs) : Int := a_c (a_A [] (d.zones.map Zon.name) a_n (a_X d.zones f_T)) (a_c (a_A [] d.srcN a_n (a_X d.srcs c_U)) (a_A [] (d.macs.map Mac.name) (fun s => !biB s) (a_X d.macs e_i)))
def i_S (w w' : World) (d : Dfs) (e : Ending) : Prop :=
 (e_V d ≠ 0 ∧ e = .returned (.tuple #[.slice none 0 0, .int .i64 (e_V d)])) ∨ (e_V d = 0 ∧ ∃ (B : Option Addr) (c : Nat), e = .returned (.tuple #[.slice B d.srcN.length c, .int .i64 0]) ∧ w'.ownsRow w.heap.size 9 1 (.slice B d.srcN.length c) d.srcN.length (d.srcN.map str))
set_option maxRecDepth 100000
theorem g_r (d : Dfs) (a : DAdr) (w : World) (hS : d.Sl w a) (ho : d.ok) :
  Calls prog 64 #[.agg #[slV a.z d.zones.length, slV a.s d.srcs.length, slV a.m d.macs.length, slV a.d d.mdls.length, slV a.n d.snps.length, slV a.c d.chks.length]] w fun e w' => i_S w w' d e ∧ Below w.heap.size w w' := by
 have HE := a_2 (show e_V d = a_c (a_A [] (d.zones.map Zon.name) a_n (a_X d.zones f_T)) (a_c (a_A [] d.srcN a_n (a_X d.srcs c_U)) (a_c (a_A [] (d.macs.map Mac.name) (fun s => !biB s) (a_X d.macs e_i)) 0)) from by
  show a_c _ (a_c _ _) = _
  congr 2
  exact i_F _)
 refine l_R ?_; intro i0 hi hz0 hz1 hz2
 refine o_K ?_; intro Hz Hs Hm Hd Hn Hc
 have HKz := a_2 ho.zone
 have HKs := a_2 ho.src
 have HKm := a_2 ho.mac
 have HKd := a_2 ho.mdl
 have HKn := a_2 ho.snp
 have HKc := a_2 ho.chk
 unfold i_S
 generalize e_V d = r at *
 obtain ⟨zs, ss, ms, ds, ns, cs⟩ := d
 obtain ⟨⟨zsA, zsC⟩, ⟨ssA, ssC⟩, ⟨msA, msC⟩, ⟨dsA, dsC⟩, ⟨nsA, nsC⟩, ⟨csA, csC⟩⟩ := a
 simp only [Dfs.srcN, Dfs.mdlN, Dfs.snpN] at *
 clear hS ho
 refine n_k ?_; intro hx0
 go_enter func64, ntmps64
 by_cases h64 : 64 < zs.length
 ·have HR := a_2 (show r = 2 from HE.out.trans (d_f h64))
  clear HE
  go_wp2_with fail
  all_goals first | (exfalso; omega) | skip
  refine bodyPost_ret (v := .tuple #[.slice none 0 0, .int .i64 2]) (by simp [results, results64, go_sem]) rfl ⟨.inl ⟨fun h9 => (show (2 : Int) ≠ 0 by decide) (HR.out.symm.trans h9), by rw [HR.out]⟩, (a_5 hx0)⟩
 replace HE := a_2 (HE.out.trans (by rw [e_5 h64]))
 go_wp2_with fail
 all_goals first | (exfalso; omega) | skip
 go_loopw [4, 7] (fun acc i wr => ∃ (k : Nat) (B : Option Addr) (d : Nat), acc = .slice B (([] : List a_3) ++ (zs.map Zon.name).take k).length d ∧ i = .int .i64 k ∧ k ≤ zs.length ∧ Hid (∀ j, j < k → c_S ([] : List a_3) (zs.map Zon.name) a_n (a_X zs f_T) j = 0) ∧
   Hid (wr.ownsRow (w.heap.size + 1) 9 1 (.slice B (([] : List a_3) ++ (zs.map Zon.name).take k).length d) (([] : List a_3) ++ (zs.map Zon.name).take k).length ((([] : List a_3) ++ (zs.map Zon.name).take k).map str)) ∧ Below (w.heap.size + 1) (w.alloc (.cells #[.slice zsA zs.length zsC, .slice ssA ss.length ssC, .slice msA ms.length msC, .slice dsA ds.length dsC, .slice nsA ns.length nsC, .slice csA cs.length csC] 34)) wr) (fun acc i _ => zs.length - (intOf i).toNat)
 case atStart => exact ⟨0, none, 0, rfl, rfl, o_, a_2 fun j hj => absurd hj (Nat.not_lt_zero _), a_2 (b_f _ _ _ _), hx0⟩
 case round =>
  skip
  obtain ⟨k, B, d, rfl, rfl, hk, HZ, HO, hx⟩ := hrel
  skip
  refine k_h ?_; intro b0 b1 b2 b3 b4 b5 hlw hr
  have hlk : (([] : List a_3) ++ (zs.map Zon.name).take k).length ≤ 300 := by simp only [List.nil_append, List.length_take, List.length_map]; omega
  by_cases hlt : k < zs.length
  ·rcases Hz.out.below g_a.kept hr with e | ⟨g, off, rfl, hg, hc⟩
   ·exact absurd hlt e_
   obtain ⟨vs, hC, hcs⟩ := hc k hlt; have hk2 : k < (zs.map Zon.name).length := by simpa using hlt
   have HT := a_2 (c_q (before := ([] : List a_3)) (names := (zs.map Zon.name)) (good := a_n) (own := (a_X zs f_T)) hk2 (by rw [List.getElem_map])); rw [c_n hlt] at HT; have hok1 := HKz.out _ (List.getElem_mem hlt); have HTk := a_2 (show ([] : List a_3) ++ (zs.map Zon.name).take (k + 1) = (([] : List a_3) ++ (zs.map Zon.name).take k) ++ [(zs[k]).name] from by rw [List.take_succ_eq_append_getElem hk2, List.getElem_map, List.append_assoc]); have HF := a_2 (fun x (e : c_S ([] : List a_3) (zs.map Zon.name) a_n (a_X zs f_T) k = x) (hx : x ≠ 0) => show r = x from HE.out.trans (by rw [a_q HZ.out (by rw [e]; exact hx) hlt, e]; exact a_h hx)); have HN := a_2 (fun (e : c_S ([] : List a_3) (zs.map Zon.name) a_n (a_X zs f_T) k = 0) => a_T HZ.out e)
   have HOx := a_2 (fun (x : Zon) (hx : zs[k] = x) (W : World) (hb : Below wr.heap.size wr W) => show g_a wr x vs → (x.name.length ≤ maxLen ∧ x.sh.length ≤ 8796093022208) → Calls prog 121 #[.agg vs.toArray] W (fun e w' => e = .returned (.int .i64 (f_T x)) ∧ Below W.heap.size W w') from fun hC hk => by
    obtain ⟨a, h1, rfl⟩ := hC
    exact g_p ⟨x.name.toArray⟩ x.off a.1 x.sh a.2 W (h1.below hb) hk.2)
   refine p_2 ?_; intro HOy; clear HOx
   have hvs : ∃ (i1 : Int) (A2 : Option Addr) (m2 : Nat) (d2 : Nat), vs = [str (zs[k]).name, .int .i64 i1, .slice A2 m2 d2] := by
    obtain ⟨a, h1, rfl⟩ := hC; exact ⟨_, _, _, _, rfl⟩
   obtain ⟨i1, A2, m2, d2, rfl⟩ := hvs; have hsl : (zs[k]).name.length ≤ maxLen := hok1.1; have e0 : wr.cell? ⟨g, off + k * 3, none⟩ = some (str (zs[k]).name) := by simpa using hcs 0 s_
   have e1 : wr.cell? ⟨g, off + k * 3 + 1, none⟩ = some (.int .i64 i1) := by simpa using hcs 1 s_
   have e2 : wr.cell? ⟨g, off + k * 3 + 2, none⟩ = some (.slice A2 m2 d2) := by simpa using hcs 2 s_
   clear hC hc hcs hok1; generalize (zs[k]).name = S at *; generalize f_T zs[k] = v at *; have HOw := a_2 (show ∀ W, Below wr.heap.size wr W → Calls prog 121 #[.agg #[str S, .int .i64 i1, .slice A2 m2 d2]] W (fun e w' => e = .returned (.int .i64 v) ∧ Below W.heap.size W w') from HOy.out); clear HOy; rw [show a_n S = true from rfl, Bool.and_true] at HT; have HG := a_2 (fun W (hb : Below wr.heap.size wr W) => b_D S B (([] : List a_3) ++ (zs.map Zon.name).take k) d W hsl ((a_W HO.out).below hb) o_); have HFr := a_2 (show d_j S (([] : List a_3) ++ (zs.map Zon.name).take k) = if qlB S = true then (if decide (S ∈ ([] : List a_3) ++ (zs.map Zon.name).take k) = true then 6 else 0) else 4 from by unfold d_j; simp only [decide_eq_true_eq]); rw [HFr.out] at HG; clear HFr; generalize hP : ([] : List a_3) ++ (zs.map Zon.name).take k = P at *; clear hP; generalize qlB S = q at *; generalize decide (S ∈ P) = dd at *; refine s_m ?_; intro HE0 HE1 HE2 hw0
   cases q
   ·have HR := a_2 (HF.out 4 (by rw [HT.out]; simp [a_c]) d_)
    clear HT HF HN HTk; rw [show (if false = true then (if dd = true then (6 : Int) else 0) else 4) = 4 from rfl] at HG
    go_wp2_with (first
    | (go_at_call 65; refine (HG.out _ hw0).mono ?_; rintro e w1 ⟨rfl, hb1⟩; have hx1 := a_1 hx s_ hb1; have hw1 := a_9 hb1 hw0; clear b0 b1 b2 b3 b4 b5 e0 e1 e2; obtain ⟨b0, b1, b2, b3, b4, b5, hlw1⟩ := a_R hx1; have e0 := HE0.out _ hw1; have e1 := HE1.out _ hw1; have e2 := HE2.out _ hw1))
    refine bodyPost_ret (v := .tuple #[.slice none 0 0, .int .i64 4]) (by simp [results, results64, go_sem]) rfl ⟨.inl ⟨fun h9 => (show (4 : Int) ≠ 0 by decide) (HR.out.symm.trans h9), by rw [HR.out]⟩, a_5 hx1⟩
   cases dd
   rotate_left
   ·have HR := a_2 (HF.out 6 (by rw [HT.out]; simp [a_c]) d_)
    clear HT HF HN HTk; rw [show (if true = true then (if true = true then (6 : Int) else 0) else 4) = 6 from rfl] at HG
    go_wp2_with (first
    | (go_at_call 65; refine (HG.out _ hw0).mono ?_; rintro e w1 ⟨rfl, hb1⟩; have hx1 := a_1 hx s_ hb1; have hw1 := a_9 hb1 hw0; clear b0 b1 b2 b3 b4 b5 e0 e1 e2; obtain ⟨b0, b1, b2, b3, b4, b5, hlw1⟩ := a_R hx1; have e0 := HE0.out _ hw1; have e1 := HE1.out _ hw1; have e2 := HE2.out _ hw1))
    refine bodyPost_ret (v := .tuple #[.slice none 0 0, .int .i64 6]) (by simp [results, results64, go_sem]) rfl ⟨.inl ⟨fun h9 => (show (6 : Int) ≠ 0 by decide) (HR.out.symm.trans h9), by rw [HR.out]⟩, a_5 hx1⟩
   rw [show (if true = true then (if false = true then (6 : Int) else 0) else 4) = 0 from rfl] at HG
   by_cases hv : v = 0
   rotate_left
   ·have HR := a_2 (HF.out v (by rw [HT.out]; simp [a_c]) hv)
    have hvb : (v != 0) = true := by simpa using hv
    clear HT HF HN HTk
    go_wp2_with (first
    | (go_at_call 65; refine (HG.out _ hw0).mono ?_; rintro e w1 ⟨rfl, hb1⟩; have hx1 := a_1 hx s_ hb1; have hw1 := a_9 hb1 hw0; clear b0 b1 b2 b3 b4 b5 e0 e1 e2; obtain ⟨b0, b1, b2, b3, b4, b5, hlw1⟩ := a_R hx1; have e0 := HE0.out _ hw1; have e1 := HE1.out _ hw1; have e2 := HE2.out _ hw1)
    | (go_at_call 121; refine (HOw.out _ hw1).mono ?_; rintro e w2 ⟨rfl, hb2⟩; have hx2 := a_1 hx1 s_ hb2; have hw2 := a_9 hb2 hw1; clear b0 b1 b2 b3 b4 b5 e0 e1 e2; obtain ⟨b0, b1, b2, b3, b4, b5, hlw2⟩ := a_R hx2; have e0 := HE0.out _ hw2; have e1 := HE1.out _ hw2; have e2 := HE2.out _ hw2))
    refine bodyPost_ret (v := .tuple #[.slice none 0 0, .int .i64 v]) (by simp [results, results64, go_sem]) rfl ⟨.inl ⟨fun h9 => hv (HR.out.symm.trans h9), by rw [HR.out]⟩, a_5 hx2⟩
   subst hv; refine k_m ?_; intro HR; clear HT HF HN
   go_wp2_with (first
    | (go_at_call 65; refine (HG.out _ hw0).mono ?_; rintro e w1 ⟨rfl, hb1⟩; have hx1 := a_1 hx s_ hb1; have hw1 := a_9 hb1 hw0; clear b0 b1 b2 b3 b4 b5 e0 e1 e2; obtain ⟨b0, b1, b2, b3, b4, b5, hlw1⟩ := a_R hx1; have e0 := HE0.out _ hw1; have e1 := HE1.out _ hw1; have e2 := HE2.out _ hw1)
    | (go_at_call 121; refine (HOw.out _ hw1).mono ?_; rintro e w2 ⟨rfl, hb2⟩; have hx2 := a_1 hx1 s_ hb2; have hw2 := a_9 hb2 hw1; clear b0 b1 b2 b3 b4 b5 e0 e1 e2; obtain ⟨b0, b1, b2, b3, b4, b5, hlw2⟩ := a_R hx2; have e0 := HE0.out _ hw2; have e1 := HE1.out _ hw2; have e2 := HE2.out _ hw2)
    | (at_builtin; refine wpList_append_own _ rfl _ _ 26 rfl (w.heap.size + 1) 9 i0 _ 1 16 underlying26 hi hz0 hz1 hz2 rfl d_ _ _ _ rfl (a_g HO.out (hw2.alloc hw2.size _)) ⟨w2.heap.size, 0, none⟩ 1 1 [str S] rfl rfl (by exact b_3 (by have := heap_alloc_new w2 (.cells #[str S] 9); simpa using this)) c_ x_ o_ m_ ?_; intro v' w3 hown3 hgrow _))
   all_goals
    obtain ⟨B3, d3, rfl⟩ := a_j hown3; refine p_7 ?_; intro hx3; refine l_b ?_; intro e1 e2 HFin; clear hown3 hgrow e1
    go_wp2
    exact o_z
  obtain rfl : k = zs.length := by omega
  refine o_r ?_; intro HX HO9
  rw [List.take_of_length_le (show (zs.map Zon.name).length ≤ zs.length by simp)] at HO9 hlk ⊢
  replace HO := a_2 HO9
  clear HE HZ HO9 h64 hk hlt
  have HE := HX
  clear HX
  clear HO hlk
  generalize Value.slice B ([] ++ (zs.map Zon.name)).length d = v4 at *
  by_cases h64 : 64 < ss.length
  ·have HR := a_2 (show r = 2 from HE.out.trans (d_f h64))
   clear HE
   go_wp2_with fail
   all_goals first | (exfalso; omega) | skip
   refine bodyPost_ret (v := .tuple #[.slice none 0 0, .int .i64 2]) (by simp [results, results64, go_sem]) rfl ⟨.inl ⟨fun h9 => (show (2 : Int) ≠ 0 by decide) (HR.out.symm.trans h9), by rw [HR.out]⟩, (a_5 hx)⟩
  replace HE := a_2 (HE.out.trans (by rw [e_5 h64]))
  go_wp2_with fail
  all_goals first | (exfalso; omega) | skip
  go_loopw [5, 10] (fun acc i wr => ∃ (k : Nat) (B : Option Addr) (d : Nat), acc = .slice B (([] : List a_3) ++ (ss.map Srx.name).take k).length d ∧ i = .int .i64 k ∧ k ≤ ss.length ∧ Hid (∀ j, j < k → c_S ([] : List a_3) (ss.map Srx.name) a_n (a_X ss c_U) j = 0) ∧
    Hid (wr.ownsRow (w.heap.size + 1) 9 1 (.slice B (([] : List a_3) ++ (ss.map Srx.name).take k).length d) (([] : List a_3) ++ (ss.map Srx.name).take k).length ((([] : List a_3) ++ (ss.map Srx.name).take k).map str)) ∧ Below (w.heap.size + 1) (w.alloc (.cells #[.slice zsA zs.length zsC, .slice ssA ss.length ssC, .slice msA ms.length msC, .slice dsA ds.length dsC, .slice nsA ns.length nsC, .slice csA cs.length csC] 34)) wr) (fun acc i _ => ss.length - (intOf i).toNat)
  case atStart => exact ⟨0, none, 0, rfl, rfl, o_, a_2 fun j hj => absurd hj (Nat.not_lt_zero _), a_2 (b_f _ _ _ _), hx⟩
  case round =>
   clear b0 b1 b2 b3 b4 b5 hlw hr hx; obtain ⟨k, B, d, rfl, rfl, hk, HZ, HO, hx⟩ := hrel
   skip
   refine k_h ?_; intro b0 b1 b2 b3 b4 b5 hlw hr; have hlk : (([] : List a_3) ++ (ss.map Srx.name).take k).length ≤ 300 := by simp only [List.nil_append, List.length_take, List.length_map]; omega
   by_cases hlt : k < ss.length
   ·rcases Hs.out.below h_f.kept hr with e | ⟨g, off, rfl, hg, hc⟩
    ·exact absurd hlt e_
    obtain ⟨vs, hC, hcs⟩ := hc k hlt; have hk2 : k < (ss.map Srx.name).length := by simpa using hlt
    have HT := a_2 (c_q (before := ([] : List a_3)) (names := (ss.map Srx.name)) (good := a_n) (own := (a_X ss c_U)) hk2 (by rw [List.getElem_map])); rw [c_n hlt] at HT; have hok1 := HKs.out _ (List.getElem_mem hlt); have HTk := a_2 (show ([] : List a_3) ++ (ss.map Srx.name).take (k + 1) = (([] : List a_3) ++ (ss.map Srx.name).take k) ++ [(ss[k]).name] from by rw [List.take_succ_eq_append_getElem hk2, List.getElem_map, List.append_assoc]); have HF := a_2 (fun x (e : c_S ([] : List a_3) (ss.map Srx.name) a_n (a_X ss c_U) k = x) (hx : x ≠ 0) => show r = x from HE.out.trans (by rw [a_q HZ.out (by rw [e]; exact hx) hlt, e]; exact a_h hx)); have HN := a_2 (fun (e : c_S ([] : List a_3) (ss.map Srx.name) a_n (a_X ss c_U) k = 0) => a_T HZ.out e)
    have HOx := a_2 (fun (x : Srx) (hx : ss[k] = x) (W : World) (hb : Below wr.heap.size wr W) => show h_f wr x vs → (x.ok) → Calls prog 122 #[.agg vs.toArray] W (fun e w' => e = .returned (.int .i64 (c_U x)) ∧ Below W.heap.size W w') from fun hC hk => by
     obtain ⟨a, b, h1, h2, rfl⟩ := hC
     exact f_K x a b W (h1.below hb) (h2.below hb) hk)
    refine p_2 ?_; intro HOy; clear HOx
    have hvs : ∃ (A1 : Option Addr) (m1 : Nat) (d1 : Nat) (A2 : Option Addr) (m2 : Nat) (d2 : Nat) (t3 : a_3) (t4 : a_3) (i5 : Int) (i6 : Int), vs = [str (ss[k]).name, .slice A1 m1 d1, .slice A2 m2 d2, str t3, str t4, .int .i64 i5, .int .i64 i6] := by
     obtain ⟨a, b, h1, h2, rfl⟩ := hC; exact ⟨_, _, _, _, _, _, _, _, _, _, rfl⟩
    obtain ⟨A1, m1, d1, A2, m2, d2, t3, t4, i5, i6, rfl⟩ := hvs; have hsl : (ss[k]).name.length ≤ maxLen := hok1.name; have e0 : wr.cell? ⟨g, off + k * 7, none⟩ = some (str (ss[k]).name) := by simpa using hcs 0 s_
    have e1 : wr.cell? ⟨g, off + k * 7 + 1, none⟩ = some (.slice A1 m1 d1) := by simpa using hcs 1 s_
    have e2 : wr.cell? ⟨g, off + k * 7 + 2, none⟩ = some (.slice A2 m2 d2) := by simpa using hcs 2 s_
    have e3 : wr.cell? ⟨g, off + k * 7 + 3, none⟩ = some (str t3) := by simpa using hcs 3 s_
    have e4 : wr.cell? ⟨g, off + k * 7 + 4, none⟩ = some (str t4) := by simpa using hcs 4 s_
    have e5 : wr.cell? ⟨g, off + k * 7 + 5, none⟩ = some (.int .i64 i5) := by simpa using hcs 5 s_
    have e6 : wr.cell? ⟨g, off + k * 7 + 6, none⟩ = some (.int .i64 i6) := by simpa using hcs 6 s_
    clear hC hc hcs hok1; generalize (ss[k]).name = S at *; generalize c_U ss[k] = v at *; have HOw := a_2 (show ∀ W, Below wr.heap.size wr W → Calls prog 122 #[.agg #[str S, .slice A1 m1 d1, .slice A2 m2 d2, str t3, str t4, .int .i64 i5, .int .i64 i6]] W (fun e w' => e = .returned (.int .i64 v) ∧ Below W.heap.size W w') from HOy.out); clear HOy; rw [show a_n S = true from rfl, Bool.and_true] at HT; have HG := a_2 (fun W (hb : Below wr.heap.size wr W) => b_D S B (([] : List a_3) ++ (ss.map Srx.name).take k) d W hsl ((a_W HO.out).below hb) o_); have HFr := a_2 (show d_j S (([] : List a_3) ++ (ss.map Srx.name).take k) = if qlB S = true then (if decide (S ∈ ([] : List a_3) ++ (ss.map Srx.name).take k) = true then 6 else 0) else 4 from by unfold d_j; simp only [decide_eq_true_eq]); rw [HFr.out] at HG; clear HFr; generalize hP : ([] : List a_3) ++ (ss.map Srx.name).take k = P at *; clear hP; generalize qlB S = q at *; generalize decide (S ∈ P) = dd at *; have HE0 := a_2 (fun W (hb : Below wr.heap.size wr W) => (hb.cell (p := ⟨g, off + k * 7, none⟩) hg).trans e0); have HE1 := a_2 (fun W (hb : Below wr.heap.size wr W) => (hb.cell (p := ⟨g, off + k * 7 + 1, none⟩) hg).trans e1); have HE2 := a_2 (fun W (hb : Below wr.heap.size wr W) => (hb.cell (p := ⟨g, off + k * 7 + 2, none⟩) hg).trans e2); have HE3 := a_2 (fun W (hb : Below wr.heap.size wr W) => (hb.cell (p := ⟨g, off + k * 7 + 3, none⟩) hg).trans e3); have HE4 := a_2 (fun W (hb : Below wr.heap.size wr W) => (hb.cell (p := ⟨g, off + k * 7 + 4, none⟩) hg).trans e4); have HE5 := a_2 (fun W (hb : Below wr.heap.size wr W) => (hb.cell (p := ⟨g, off + k * 7 + 5, none⟩) hg).trans e5); have HE6 := a_2 (fun W (hb : Below wr.heap.size wr W) => (hb.cell (p := ⟨g, off + k * 7 + 6, none⟩) hg).trans e6); have hw0 : Below wr.heap.size wr wr := b_ _ _
    cases q
    ·have HR := a_2 (HF.out 4 (by rw [HT.out]; simp [a_c]) d_)
     clear HT HF HN HTk; rw [show (if false = true then (if dd = true then (6 : Int) else 0) else 4) = 4 from rfl] at HG
     go_wp2_with (first
     | (go_at_call 65; refine (HG.out _ hw0).mono ?_; rintro e w1 ⟨rfl, hb1⟩; have hx1 := a_1 hx s_ hb1; have hw1 := a_9 hb1 hw0; clear b0 b1 b2 b3 b4 b5 e0 e1 e2 e3 e4 e5 e6; obtain ⟨b0, b1, b2, b3, b4, b5, hlw1⟩ := a_R hx1; have e0 := HE0.out _ hw1; have e1 := HE1.out _ hw1; have e2 := HE2.out _ hw1; have e3 := HE3.out _ hw1; have e4 := HE4.out _ hw1; have e5 := HE5.out _ hw1; have e6 := HE6.out _ hw1))
     refine bodyPost_ret (v := .tuple #[.slice none 0 0, .int .i64 4]) (by simp [results, results64, go_sem]) rfl ⟨.inl ⟨fun h9 => (show (4 : Int) ≠ 0 by decide) (HR.out.symm.trans h9), by rw [HR.out]⟩, a_5 hx1⟩
    cases dd
    rotate_left
    ·have HR := a_2 (HF.out 6 (by rw [HT.out]; simp [a_c]) d_)
     clear HT HF HN HTk; rw [show (if true = true then (if true = true then (6 : Int) else 0) else 4) = 6 from rfl] at HG
     go_wp2_with (first
     | (go_at_call 65; refine (HG.out _ hw0).mono ?_; rintro e w1 ⟨rfl, hb1⟩; have hx1 := a_1 hx s_ hb1; have hw1 := a_9 hb1 hw0; clear b0 b1 b2 b3 b4 b5 e0 e1 e2 e3 e4 e5 e6; obtain ⟨b0, b1, b2, b3, b4, b5, hlw1⟩ := a_R hx1; have e0 := HE0.out _ hw1; have e1 := HE1.out _ hw1; have e2 := HE2.out _ hw1; have e3 := HE3.out _ hw1; have e4 := HE4.out _ hw1; have e5 := HE5.out _ hw1; have e6 := HE6.out _ hw1))
     refine bodyPost_ret (v := .tuple #[.slice none 0 0, .int .i64 6]) (by simp [results, results64, go_sem]) rfl ⟨.inl ⟨fun h9 => (show (6 : Int) ≠ 0 by decide) (HR.out.symm.trans h9), by rw [HR.out]⟩, a_5 hx1⟩
    rw [show (if true = true then (if false = true then (6 : Int) else 0) else 4) = 0 from rfl] at HG
    by_cases hv : v = 0
    rotate_left
    ·have HR := a_2 (HF.out v (by rw [HT.out]; simp [a_c]) hv)
     have hvb : (v != 0) = true := by simpa using hv
     clear HT HF HN HTk
     go_wp2_with (first
     | (go_at_call 65; refine (HG.out _ hw0).mono ?_; rintro e w1 ⟨rfl, hb1⟩; have hx1 := a_1 hx s_ hb1; have hw1 := a_9 hb1 hw0; clear b0 b1 b2 b3 b4 b5 e0 e1 e2 e3 e4 e5 e6; obtain ⟨b0, b1, b2, b3, b4, b5, hlw1⟩ := a_R hx1; have e0 := HE0.out _ hw1; have e1 := HE1.out _ hw1; have e2 := HE2.out _ hw1; have e3 := HE3.out _ hw1; have e4 := HE4.out _ hw1; have e5 := HE5.out _ hw1; have e6 := HE6.out _ hw1)
     | (go_at_call 122; refine (HOw.out _ hw1).mono ?_; rintro e w2 ⟨rfl, hb2⟩; have hx2 := a_1 hx1 s_ hb2; have hw2 := a_9 hb2 hw1; clear b0 b1 b2 b3 b4 b5 e0 e1 e2 e3 e4 e5 e6; obtain ⟨b0, b1, b2, b3, b4, b5, hlw2⟩ := a_R hx2; have e0 := HE0.out _ hw2; have e1 := HE1.out _ hw2; have e2 := HE2.out _ hw2; have e3 := HE3.out _ hw2; have e4 := HE4.out _ hw2; have e5 := HE5.out _ hw2; have e6 := HE6.out _ hw2))
     refine bodyPost_ret (v := .tuple #[.slice none 0 0, .int .i64 v]) (by simp [results, results64, go_sem]) rfl ⟨.inl ⟨fun h9 => hv (HR.out.symm.trans h9), by rw [HR.out]⟩, a_5 hx2⟩
    subst hv; refine k_m ?_; intro HR; clear HT HF HN
    go_wp2_with (first
     | (go_at_call 65; refine (HG.out _ hw0).mono ?_; rintro e w1 ⟨rfl, hb1⟩; have hx1 := a_1 hx s_ hb1; have hw1 := a_9 hb1 hw0; clear b0 b1 b2 b3 b4 b5 e0 e1 e2 e3 e4 e5 e6; obtain ⟨b0, b1, b2, b3, b4, b5, hlw1⟩ := a_R hx1; have e0 := HE0.out _ hw1; have e1 := HE1.out _ hw1; have e2 := HE2.out _ hw1; have e3 := HE3.out _ hw1; have e4 := HE4.out _ hw1; have e5 := HE5.out _ hw1; have e6 := HE6.out _ hw1)
     | (go_at_call 122; refine (HOw.out _ hw1).mono ?_; rintro e w2 ⟨rfl, hb2⟩; have hx2 := a_1 hx1 s_ hb2; have hw2 := a_9 hb2 hw1; clear b0 b1 b2 b3 b4 b5 e0 e1 e2 e3 e4 e5 e6; obtain ⟨b0, b1, b2, b3, b4, b5, hlw2⟩ := a_R hx2; have e0 := HE0.out _ hw2; have e1 := HE1.out _ hw2; have e2 := HE2.out _ hw2; have e3 := HE3.out _ hw2; have e4 := HE4.out _ hw2; have e5 := HE5.out _ hw2; have e6 := HE6.out _ hw2)
     | (at_builtin; refine wpList_append_own _ rfl _ _ 26 rfl (w.heap.size + 1) 9 i0 _ 1 16 underlying26 hi hz0 hz1 hz2 rfl d_ _ _ _ rfl (a_g HO.out (hw2.alloc hw2.size _)) ⟨w2.heap.size, 0, none⟩ 1 1 [str S] rfl rfl (by exact b_3 (by have := heap_alloc_new w2 (.cells #[str S] 9); simpa using this)) c_ x_ o_ m_ ?_; intro v' w3 hown3 hgrow _))
    all_goals
     obtain ⟨B3, d3, rfl⟩ := a_j hown3; refine p_7 ?_; intro hx3; refine l_b ?_; intro e1 e2 HFin; clear hown3 hgrow e1
     go_wp2
     exact o_z
   obtain rfl : k = ss.length := by omega
   refine o_r ?_; intro HX HO9; rw [List.take_of_length_le (show (ss.map Srx.name).length ≤ ss.length by simp)] at HO9 hlk ⊢; replace HO := a_2 HO9; clear HE HZ HO9 h64 hk hlt; have HE := HX; clear HX; have hsl9 : ([] ++ ss.map Srx.name).length = ss.length := by simp
   rw [hsl9] at HO ⊢; clear hsl9; have HOs := HO; have hxs := hx; clear HO hlk
   rename World => W2
   generalize B = SB at *; generalize d = sd at *
   by_cases h64 : 64 < ms.length
   ·have HR := a_2 (show r = 2 from HE.out.trans (d_f h64))
    clear HE
    go_wp2_with fail
    all_goals first | (exfalso; omega) | skip
    refine bodyPost_ret (v := .tuple #[.slice none 0 0, .int .i64 2]) (by simp [results, results64, go_sem]) rfl ⟨.inl ⟨fun h9 => (show (2 : Int) ≠ 0 by decide) (HR.out.symm.trans h9), by rw [HR.out]⟩, (a_5 hx)⟩
   replace HE := a_2 (HE.out.trans (by rw [e_5 h64]))
   go_wp2_with fail
   all_goals first | (exfalso; omega) | skip
   go_loopw [6, 13] (fun acc i wr => ∃ (k : Nat) (B : Option Addr) (d : Nat), acc = .slice B (([] : List a_3) ++ (ms.map Mac.name).take k).length d ∧ i = .int .i64 k ∧ k ≤ ms.length ∧ Hid (∀ j, j < k → c_S ([] : List a_3) (ms.map Mac.name) (fun s => !biB s) (a_X ms e_i) j = 0) ∧
     Hid (wr.ownsRow (W2.heap.size) 9 1 (.slice B (([] : List a_3) ++ (ms.map Mac.name).take k).length d) (([] : List a_3) ++ (ms.map Mac.name).take k).length ((([] : List a_3) ++ (ms.map Mac.name).take k).map str)) ∧ Below (W2.heap.size) W2 wr) (fun acc i _ => ms.length - (intOf i).toNat)
   case atStart => exact ⟨0, none, 0, rfl, rfl, o_, a_2 fun j hj => absurd hj (Nat.not_lt_zero _), a_2 (b_f _ _ _ _), b_ _ _⟩
   case round =>
    clear b0 b1 b2 b3 b4 b5 hlw hr hx; obtain ⟨k, B, d, rfl, rfl, hk, HZ, HO, hy⟩ := hrel; have hx := a_1 hxs s_ hy; refine k_h ?_; intro b0 b1 b2 b3 b4 b5 hlw hr; have hlk : (([] : List a_3) ++ (ms.map Mac.name).take k).length ≤ 300 := by simp only [List.nil_append, List.length_take, List.length_map]; omega
    by_cases hlt : k < ms.length
    ·rcases Hm.out.below f_J.kept hr with e | ⟨g, off, rfl, hg, hc⟩
     ·exact absurd hlt e_
     obtain ⟨vs, hC, hcs⟩ := hc k hlt; have hk2 : k < (ms.map Mac.name).length := by simpa using hlt
     have HT := a_2 (c_q (before := ([] : List a_3)) (names := (ms.map Mac.name)) (good := (fun s => !biB s)) (own := (a_X ms e_i)) hk2 (by rw [List.getElem_map])); rw [c_n hlt] at HT; have hok1 := HKm.out _ (List.getElem_mem hlt); have HTk := a_2 (show ([] : List a_3) ++ (ms.map Mac.name).take (k + 1) = (([] : List a_3) ++ (ms.map Mac.name).take k) ++ [(ms[k]).name] from by rw [List.take_succ_eq_append_getElem hk2, List.getElem_map, List.append_assoc]); have HF := a_2 (fun x (e : c_S ([] : List a_3) (ms.map Mac.name) (fun s => !biB s) (a_X ms e_i) k = x) (hx : x ≠ 0) => show r = x from HE.out.trans (by rw [a_q HZ.out (by rw [e]; exact hx) hlt, e]; exact a_h hx)); have HN := a_2 (fun (e : c_S ([] : List a_3) (ms.map Mac.name) (fun s => !biB s) (a_X ms e_i) k = 0) => a_T HZ.out e)
     have HOx := a_2 (fun (x : Mac) (hx : ms[k] = x) (W : World) (hb : Below wr.heap.size wr W) => show f_J wr x vs → (x.ok) → Calls prog 124 #[.agg vs.toArray] W (fun e w' => e = .returned (.int .i64 (e_i x)) ∧ Below W.heap.size W w') from fun hC hk => by
      obtain ⟨a, b, h1, h2, rfl⟩ := hC
      exact g_2 x a b W (h1.below hb) (h2.below hb) hk)
     refine p_2 ?_; intro HOy; clear HOx
     have hvs : ∃ (A1 : Option Addr) (m1 : Nat) (d1 : Nat) (A2 : Option Addr) (m2 : Nat) (d2 : Nat), vs = [str (ms[k]).name, .slice A1 m1 d1, .slice A2 m2 d2] := by
      obtain ⟨a, b, h1, h2, rfl⟩ := hC; exact ⟨_, _, _, _, _, _, rfl⟩
     obtain ⟨A1, m1, d1, A2, m2, d2, rfl⟩ := hvs; have hsl : (ms[k]).name.length ≤ maxLen := hok1.name; have e0 : wr.cell? ⟨g, off + k * 3, none⟩ = some (str (ms[k]).name) := by simpa using hcs 0 s_
     have e1 : wr.cell? ⟨g, off + k * 3 + 1, none⟩ = some (.slice A1 m1 d1) := by simpa using hcs 1 s_
     have e2 : wr.cell? ⟨g, off + k * 3 + 2, none⟩ = some (.slice A2 m2 d2) := by simpa using hcs 2 s_
     clear hC hc hcs hok1; generalize (ms[k]).name = S at *; generalize e_i ms[k] = v at *; have HOw := a_2 (show ∀ W, Below wr.heap.size wr W → Calls prog 124 #[.agg #[str S, .slice A1 m1 d1, .slice A2 m2 d2]] W (fun e w' => e = .returned (.int .i64 v) ∧ Below W.heap.size W w') from HOy.out); clear HOy; have HG := a_2 (fun W => f_U S W hsl); have HH := a_2 (fun W (hb : Below wr.heap.size wr W) => d_a B (([] : List a_3) ++ (ms.map Mac.name).take k) d S W ((a_W HO.out).below hb) o_); generalize hP : ([] : List a_3) ++ (ms.map Mac.name).take k = P at *; clear hP; generalize (qlB S && !biB S) = q at *; generalize decide (S ∈ P) = dd at *; refine s_m ?_; intro HE0 HE1 HE2 hw0
     cases q
     ·have HR := a_2 (HF.out 4 (by rw [HT.out]; simp [a_c]) d_)
      clear HT HF HN HTk
      go_wp2_with (first
      | (go_at_call 123; refine (HG.out _).mono ?_; rintro e w1 ⟨rfl, hb1⟩; have hx1 := a_1 hx s_ hb1; have hw1 := a_9 hb1 hw0; clear b0 b1 b2 b3 b4 b5 e0 e1 e2; obtain ⟨b0, b1, b2, b3, b4, b5, hlw1⟩ := a_R hx1; have e0 := HE0.out _ hw1; have e1 := HE1.out _ hw1; have e2 := HE2.out _ hw1))
      refine bodyPost_ret (v := .tuple #[.slice none 0 0, .int .i64 4]) (by simp [results, results64, go_sem]) rfl ⟨.inl ⟨fun h9 => (show (4 : Int) ≠ 0 by decide) (HR.out.symm.trans h9), by rw [HR.out]⟩, a_5 hx1⟩
     cases dd
     rotate_left
     ·have HR := a_2 (HF.out 6 (by rw [HT.out]; simp [a_c]) d_)
      clear HT HF HN HTk
      go_wp2_with (first
      | (go_at_call 123; refine (HG.out _).mono ?_; rintro e w1 ⟨rfl, hb1⟩; have hx1 := a_1 hx s_ hb1; have hw1 := a_9 hb1 hw0; clear b0 b1 b2 b3 b4 b5 e0 e1 e2; obtain ⟨b0, b1, b2, b3, b4, b5, hlw1⟩ := a_R hx1; have e0 := HE0.out _ hw1; have e1 := HE1.out _ hw1; have e2 := HE2.out _ hw1)
      | (go_at_call 34; refine (HH.out _ hw1).mono ?_; rintro e w2 ⟨rfl, rfl⟩))
      refine bodyPost_ret (v := .tuple #[.slice none 0 0, .int .i64 6]) (by simp [results, results64, go_sem]) rfl ⟨.inl ⟨fun h9 => (show (6 : Int) ≠ 0 by decide) (HR.out.symm.trans h9), by rw [HR.out]⟩, a_5 hx1⟩
     by_cases hv : v = 0
     rotate_left
     ·have HR := a_2 (HF.out v (by rw [HT.out]; simp [a_c]) hv)
      have hvb : (v != 0) = true := by simpa using hv
      clear HT HF HN HTk
      go_wp2_with (first
      | (go_at_call 123; refine (HG.out _).mono ?_; rintro e w1 ⟨rfl, hb1⟩; have hx1 := a_1 hx s_ hb1; have hw1 := a_9 hb1 hw0; clear b0 b1 b2 b3 b4 b5 e0 e1 e2; obtain ⟨b0, b1, b2, b3, b4, b5, hlw1⟩ := a_R hx1; have e0 := HE0.out _ hw1; have e1 := HE1.out _ hw1; have e2 := HE2.out _ hw1)
      | (go_at_call 34; refine (HH.out _ hw1).mono ?_; rintro e w2 ⟨rfl, rfl⟩)
      | (go_at_call 124; refine (HOw.out _ hw1).mono ?_; rintro e w2 ⟨rfl, hb2⟩; have hx2 := a_1 hx1 s_ hb2; have hw2 := a_9 hb2 hw1; clear b0 b1 b2 b3 b4 b5 e0 e1 e2; obtain ⟨b0, b1, b2, b3, b4, b5, hlw2⟩ := a_R hx2; have e0 := HE0.out _ hw2; have e1 := HE1.out _ hw2; have e2 := HE2.out _ hw2))
      refine bodyPost_ret (v := .tuple #[.slice none 0 0, .int .i64 v]) (by simp [results, results64, go_sem]) rfl ⟨.inl ⟨fun h9 => hv (HR.out.symm.trans h9), by rw [HR.out]⟩, a_5 hx2⟩
     subst hv; refine k_m ?_; intro HR; clear HT HF HN
     go_wp2_with (first
      | (go_at_call 123; refine (HG.out _).mono ?_; rintro e w1 ⟨rfl, hb1⟩; have hx1 := a_1 hx s_ hb1; have hw1 := a_9 hb1 hw0; clear b0 b1 b2 b3 b4 b5 e0 e1 e2; obtain ⟨b0, b1, b2, b3, b4, b5, hlw1⟩ := a_R hx1; have e0 := HE0.out _ hw1; have e1 := HE1.out _ hw1; have e2 := HE2.out _ hw1)
      | (go_at_call 34; refine (HH.out _ hw1).mono ?_; rintro e w2 ⟨rfl, rfl⟩)
      | (go_at_call 124; refine (HOw.out _ hw1).mono ?_; rintro e w2 ⟨rfl, hb2⟩; have hx2 := a_1 hx1 s_ hb2; have hw2 := a_9 hb2 hw1; clear b0 b1 b2 b3 b4 b5 e0 e1 e2; obtain ⟨b0, b1, b2, b3, b4, b5, hlw2⟩ := a_R hx2; have e0 := HE0.out _ hw2; have e1 := HE1.out _ hw2; have e2 := HE2.out _ hw2)
      | (at_builtin; refine wpList_append_own _ rfl _ _ 26 rfl (W2.heap.size) 9 i0 _ 1 16 underlying26 hi hz0 hz1 hz2 rfl d_ _ _ _ rfl (a_g HO.out (hw2.alloc hw2.size _)) ⟨w2.heap.size, 0, none⟩ 1 1 [str S] rfl rfl (by exact b_3 (by have := heap_alloc_new w2 (.cells #[str S] 9); simpa using this)) c_ x_ o_ (by have h5 := hy.size; have h6 := hw2.size; simp; omega) ?_; intro v' w3 hown3 hgrow _))
     all_goals
      obtain ⟨B3, d3, rfl⟩ := a_j hown3; have hx3 := ((a_1 hy (l_ _) hw2).alloc (by have h5 := hy.size; have h6 := hw2.size; omega) (.cells #[str S] 9)).grown hgrow (by have h5 := hy.size; have h6 := hw2.size; simp; omega) (fun k hk => (HO.out.lt k hk).1); have e1 : (P ++ [S]).map str = P.map str ++ [str S] := by simp
      have e2 : (P ++ [S]).length = P.length + 1 := by simp
      have HFin := a_2 (show w3.ownsRow (W2.heap.size) 9 1 (.slice B3 (P ++ [S]).length d3) (P ++ [S]).length ((P ++ [S]).map str) from by rw [e1, e2]; exact hown3); clear hown3 hgrow e1
      go_wp2
      exact o_z
    obtain rfl : k = ms.length := by omega
    refine o_r ?_; intro HX HO9; rw [List.take_of_length_le (show (ms.map Mac.name).length ≤ ms.length by simp)] at HO9 hlk ⊢; replace HO := a_2 HO9; clear HE HZ HO9 h64 hk hlt; have HE := HX; clear HX; have HR := a_2 HE.out
    go_wp2_with fail
    refine bodyPost_ret (v := .tuple #[.slice SB ss.length sd, .int .i64 0]) (by simp [results, results64, go_sem]) rfl ⟨.inr ⟨HR.out, SB, sd, by rw [List.length_map], by rw [List.length_map]; exact own_low (a_g HOs.out hy) o_⟩, a_5 hx⟩
end Go.Proofs.YtnpjibaolicbmaaGreatDoor
