/- Parts of the proof. -/
import Derived.Test.YtmbeeefkpgfgmaaGreatDoorPp22
import Derived.Deep.AppendLies
set_option linter.unusedVariables false
set_option linter.unusedSimpArgs false
set_option maxHeartbeats 8000000
namespace Go.Proofs.YtmbeeefkpgfgmaaGreatDoor
open Go.Proofs.Tryz
open Go.RowKit
theorem Tryz.info_step : (prog.info? 27).map (fun i => (i.zero, i.size, i.bytes)) = some (some (.agg #[.int .i64 0, .string ⟨#[]⟩, .slice none 0 0, .slice none 0 0, .slice none 0 0, .slice none 0 0]), 6, 120) := by kernel_rfl
def d_8 : List Stp → List Adr → List Value
 | s :: ss, a :: az => s.cells a ++ d_8 ss az
 | _, _ => []
theorem Stp.cells_len (s : Stp) (a : Adr) : (s.cells a).length = 6 := rfl
theorem g_K : ∀ (ss : List Stp) (az : List Adr) (s : Stp) (a : Adr), az.length = ss.length → d_8 (ss ++ [s]) (az ++ [a]) = d_8 ss az ++ s.cells a
 | [], [], s, a, _ => by simp [d_8]
 | [], _ :: _, _, _, h => by simp at h
 | _ :: _, [], _, _, h => by simp at h
 | x :: ss, y :: az, s, a, h => by
  show x.cells y ++ d_8 (ss ++ [s]) (az ++ [a]) = x.cells y ++ d_8 ss az ++ s.cells a
  rw [g_K ss az s a (by simpa using h), List.append_assoc]
theorem i_J : ∀ (ss : List Stp) (az : List Adr) (i : Nat) (h : i < ss.length) (h' : i < az.length) (j : Nat), j < 6 → (d_8 ss az)[i * 6 + j]? = (ss[i].cells az[i])[j]?
 | [], _, i, h, _, _, _ => absurd h s_
 | _ :: _, [], i, _, h', _, _ => absurd h' s_
 | s :: ss, a :: az, 0, h, h', j, hj => by
  rw [Nat.zero_mul, Nat.zero_add]
  show (s.cells a ++ d_8 ss az)[j]? = _
  rw [List.getElem?_append_left (by rw [Stp.cells_len]; exact hj)]
  rfl
 | s :: ss, a :: az, i + 1, h, h', j, hj => by
  show (s.cells a ++ d_8 ss az)[(i + 1) * 6 + j]? = _
  rw [List.getElem?_append_right (by rw [Stp.cells_len]; omega), show (i + 1) * 6 + j - (s.cells a).length = i * 6 + j by rw [Stp.cells_len]; omega]
  exact i_J ss az i (by simpa using h) (by simpa using h') j hj
def a_I (l : List TypeId) (w w' : World) : Prop := w.heap.size ≤ w'.heap.size ∧ ∀ (k : Nat) (cs : Array Value) (t : TypeId) (r : Nat × Nat), w.heap[k]? = some (.cells cs t r) → t ∈ l → w'.heap[k]? = some (.cells cs t r)
theorem a_I.refl (l : List TypeId) (w : World) : a_I l w w := ⟨l_ _, fun _ _ _ _ h _ => h⟩
theorem a_I.trans {l : List TypeId} {a b c : World} (h : a_I l a b) (g : a_I l b c) : a_I l a c := ⟨Nat.le_trans h.1 g.1, fun k cs t r e m => g.2 k cs t r (h.2 k cs t r e m) m⟩
theorem a_I.sub {l l' : List TypeId} {a b : World} (h : a_I l a b) (hl : ∀ t, t ∈ l' → t ∈ l) : a_I l' a b := ⟨h.1, fun k cs t r e m => h.2 k cs t r e (hl t m)⟩
theorem a_I.of_below {l : List TypeId} {w w' : World} (h : Below w.heap.size w w') : a_I l w w' := ⟨h.size, fun k _ _ _ e _ => (h.block k (a_6 e)).trans e⟩
theorem a_I.of_grown {l : List TypeId} {w w' : World} {row : Option Nat} (h : w.grownBy w' row) (hr : ∀ k, row = some k → ∃ cs t r, w.heap[k]? = some (.cells cs t r) ∧ t ∉ l) : a_I l w w' :=
 ⟨h.size, fun k cs t r e m => (h.block k (a_6 e) (fun e9 => by
  obtain ⟨cs', t', r', h1, h2⟩ := hr k e9.symm
  rw [e] at h1
  injection h1 with h1
  injection h1 with _ h3 _
  exact h2 (h3 ▸ m))).trans e⟩
theorem a_I.of_own {l : List TypeId} {w w' : World} {base e size n : Nat} {v : Value} {xs : List Value} (h : w.grownBy w' v.ownBlock) (ho : w.ownsRow base e size v n xs) (he : e ∉ l) : a_I l w w' :=
 a_I.of_grown h fun k hk => by
  rcases ho.2 with ⟨rfl, _⟩ | ⟨g, cap, cur, rfl, hb, hg, _⟩
  ·cases hk
  ·injection hk with hk
   subst hk; exact ⟨_, _, _, hg, he⟩
def b_b (l : List TypeId) (F : World → Prop) (w : World) : Prop := ∀ w', a_I l w w' → F w'
theorem b_b.now {l : List TypeId} {F : World → Prop} {w : World} (h : b_b l F w) : F w := h w (a_I.refl l w)
theorem b_b.keep {l : List TypeId} {F : World → Prop} {w w' : World} (h : b_b l F w) (k : a_I l w w') : b_b l F w' := fun v hv => h v (k.trans hv)
theorem b_b.mono {l : List TypeId} {F G : World → Prop} {w : World} (h : b_b l F w) (i : ∀ v, F v → G v) : b_b l G w := fun v hv => i v (h v hv)
theorem b_b.more {l l' : List TypeId} {F : World → Prop} {w : World} (h : b_b l F w) (hl : ∀ t, t ∈ l → t ∈ l') : b_b l' F w := fun v hv => h v (hv.sub hl)
theorem b_b.of_own {l : List TypeId} {F : World → Prop} {w : World} {base e size n c : Nat} {A : Option Addr} {xs : List Value} (ho : w.ownsRow base e size (.slice A n c) n xs) (he : e ∈ l) (h : ∀ v : World, v.ownsRow base e size (.slice A n c) n xs → F v) : b_b l F w := fun v hv => by
 refine h v ⟨ho.1, ?_⟩
 rcases ho.2 with h2 | ⟨g, cap, cur, hv2, hb, hg, h3⟩
 ·exact .inl h2
 ·exact .inr ⟨g, cap, cur, hv2, hb, hv.2 g _ _ _ hg he, h3⟩
abbrev tSQ : List TypeId := [ 9, 116 ]
abbrev tI : List TypeId := [ 9, 116, 61 ]
theorem QPost.keep {W w' : World} {P cc : Nat} {A : Option Addr} {ts : List Tok} {s0 s : QSt} {l : List TypeId} (h0 : QPt QT W P A ts cc s0) (h : W.grownBy w' (some P)) (hl : QT ∉ l) : a_I l W w' :=
 a_I.of_grown h fun k hk => by injection hk with hk; subst hk; exact ⟨_, _, _, h0.blk, hl⟩
def k_P (w' : World) (x : Stp) (e : Ending) : Prop := ∃ a : Adr, e = .returned (x.agg a) ∧ b_b tI (fun v => x.At v a) w'
structure BxC (W0 : World) (P Bp Bs : Nat) (op : Int) (src : a_3) (names others : List a_3) (nA : Option Addr) (nC : Nat) (oA : Option Addr) (oC : Nat) (W1 W : World) (c : List It) (I : Option Addr) (n : Nat) (es : List (Option Addr × Nat)) : Prop where
 pb : PBox W0 P Bp W
 w0 : W0.heap.size ≤ Bs
 ne : Bp < Bs
 kt : a_I tSQ W1 W
 box : W.heap[Bs]? = some (.cells #[.int .i64 op, str src, .slice nA names.length nC, .slice oA others.length oC, .slice I c.length n, .slice none 0 0] 27 (0, 0))
 own : W.ownsRow (Bs + 1) 61 5 (.slice I c.length n) c.length (b_T c es)
 len : es.length = c.length
 firm : b_b [ 116 ] (fun v => ∀ i (h : i < c.length) (h' : i < es.length), c_L v es[i].1 c[i].expr) W
section
variable {W0 W1 W W' w3 w4 : World} {P Bp Bs n n' cc nC oC ec : Nat} {op : Int} {src : a_3} {names others : List a_3} {A nA oA I E B' : Option Addr} {ts : List Tok} {s s0 : QSt} {c : List It} {es : List (Option Addr × Nat)} {x : It}
theorem e_C {l : List TypeId} (hS : QPt QT W P A ts cc s0) (hg : W.grownBy W' (some P)) (hl : QT ∉ l) : a_I l W W' :=
 a_I.of_grown hg fun k hk => by injection hk with hk; subst hk; exact ⟨_, _, _, hS.blk, hl⟩
theorem BxC.step (h : BxC W0 P Bp Bs op src names others nA nC oA oC W1 W c I n es) (hS : QPt QT W P A ts cc s0) (hg : W.grownBy W' (some P)) : BxC W0 P Bp Bs op src names others nA nC oA oC W1 W' c I n es := by
 refine p_T ?_; intro h1 h2 h3
 exact ⟨h.pb.step hg, h.w0, h3, h.kt.trans (e_C hS hg d_), a_r hg h.box o_, a_v h.own hg o_, h.len, h.firm.keep (e_C hS hg d_)⟩
theorem f_S {l : List TypeId} {w w5 : World} (h : b_b l (fun v => ∀ i (h : i < c.length) (h' : i < es.length), c_L v es[i].1 c[i].expr) w) (k : a_I l w w5) (hl : es.length = c.length) (hx : b_b l (fun v => c_L v E x.expr) w5) :
  b_b l (fun v => ∀ i (h : i < (c ++ [x]).length) (h' : i < (es ++ [(E, ec)]).length), c_L v (es ++ [(E, ec)])[i].1 (c ++ [x])[i].expr) w5 := fun v hv i hi hi' => by
 rcases Nat.lt_or_ge i c.length with hlt | hge
 ·rw [List.getElem_append_left hlt, List.getElem_append_left o_]
  exact (h.keep k) v hv i hlt o_
 ·have e : i = c.length := by simp at hi; omega
  subst e
  rw [List.getElem_append_right o_, List.getElem_append_right o_]
  simp [hl]
  exact hx v hv
theorem BxC.done (h : BxC W0 P Bp Bs op src names others nA nC oA oC W1 W c I n es) (hS : QPt QT W P A ts cc s0) (hq : QPt QT w3 P A ts cc s) (hg : W.grownBy w3 (some P)) (hx : b_b [ 116 ] (fun v => c_L v E x.expr) w3)
  (g4 : w3.grownBy w4 (Value.slice I c.length n).ownBlock) (o4 : w4.ownsRow (Bs + 1) 61 5 (.slice B' (c.length + 1) n') (c.length + 1) (b_T c es ++ [str x.name, .int .i64 x.fn, str x.col, .int .i64 x.num, .slice E x.expr.length ec])) :
  QPt QT (w4.setCell ⟨Bs, 4, none⟩ (.slice B' (c.length + 1) n')) P A ts cc s ∧ BxC W0 P Bp Bs op src names others nA nC oA oC W1 (w4.setCell ⟨Bs, 4, none⟩ (.slice B' (c.length + 1) n')) (c ++ [x]) B' n' (es ++ [(E, ec)]) := by
 refine p_T ?_; intro h1 h2 h3
 have h4 := h.w0
 have hr : ∀ k, (Value.slice I c.length n).ownBlock = some k → Bs < k := fun k e => (h.own.lt k e).1
 have o3 := a_v h.own hg o_
 have hW0 := h.pb.gr.trans hg
 have z0 := h.pb.gr.size
 have b3 := a_r hg h.box o_
 have b4 := (g4.block Bs (a_6 b3) (fun e => by have := hr Bs e.symm; omega)).trans b3
 have p3 := a_r hg h.pb.box o_
 have p4 := (g4.block Bp (a_6 p3) (fun e => by have := hr Bp e.symm; omega)).trans p3
 have g5 : w4.grownBy (w4.setCell ⟨Bs, 4, none⟩ (.slice B' (c.length + 1) n')) (some Bs) := a_d (g_ _ _) _ _
 have k4 : a_I tSQ w3 w4 := a_I.of_own g4 o3 d_
 have k5 : a_I tSQ w4 (w4.setCell ⟨Bs, 4, none⟩ (.slice B' (c.length + 1) n')) := a_I.of_grown g5 fun k e => by injection e with e; subst e; exact ⟨_, _, _, b4, d_⟩
 have k35 := k4.trans k5
 have kk := (e_C hS hg (l := tSQ) d_).trans k35
 have hN : ∀ t, t ∈ ([ 116 ] : List TypeId) → t ∈ tSQ := fun t ht => by simp at ht; simp [ht]
 refine ⟨(hq.gr g4 (fun j e => by have := hr j e; omega)).gr g5 (fun j e => by injection e with e; omega), ⟨(hW0.andThen g4 (fun j e => .inl (by have := hr j e; omega))).andThen g5 (fun j e => .inl j_), h1, h2, ?_⟩, h4, h3, h.kt.trans kk, ?_, ?_, by simp [h.len], f_S h.firm (kk.sub hN) h.len (hx.keep (k35.sub hN))⟩
 ·exact (g5.block Bp (a_6 p4) (fun e => by injection e with e; omega)).trans p4
 ·have := heap_setCell_same w4 Bs 4 _ _ (.slice B' (c.length + 1) n') b4
  simpa using this
 ·have := a_v o4 g5 (Nat.lt_succ_self _)
  rw [e_E c es x (E, ec) h.len]
  simpa using this
end
theorem n_T {w : World} {P : Nat} {A : Option Addr} {ts : List Tok} (h : n_2 w P A ts) (hP : P < w.heap.size) : d_a w A ts := by
 obtain ⟨g, off, hA, hg, hc⟩ := h
 exact .inr ⟨g, off, hA, o_, hc⟩
set_option maxRecDepth 100000
theorem q_G (W : World) (P : Nat) (A : Option Addr) (ts : List Tok) (c : Nat) (s : QSt) (hv : a_O ts = true) (hS : QPt QT W P A ts c s) (hi : s.i < ts.length) (hl : ts.length ≤ 1000000) :
  Calls prog 174 #[.pointer (some ⟨P, 0, none⟩)] W fun e w' => (∃ B n, e = .returned (.slice B (b_J ts s).1.length n) ∧ w'.ownsRow W.heap.size 116 6 (.slice B (b_J ts s).1.length n) (b_J ts s).1.length (a_a (b_J ts s).1)) ∧ QPost QT W P A ts c (b_J ts s).2 w' := by
 refine q_M ?_; intro c0 c1 c2 hP
 by_cases he : s.e = 0
 ·obtain ⟨j, hj, hjl, _, _, _⟩ := h_8 hv hi
  refine v_N ?_; intro HX
  have hsh : ∀ j (h : j < ts.length), ts[j].text.length ≤ maxLen := fun j h => by
   have := d_d hv h; rw [l_n h] at this; unfold maxLen; omega
  have HPa := a_0 (fun (W' : World) (hb : Below W.heap.size W W') => g_U A ts c s.i W' (hS.glb _ (hb.mono (Nat.le_of_lt hP))) (n_T (hS.below hb).tok (hS.below hb).lt) o_ hsh)
  have HS := a_0 hS
  rw [he] at c2
  clear hS hsh hv he
  rw [HX.out]
  clear HX
  generalize hr : paS ts s.i = r at *
  obtain ⟨es, a, x⟩ := r
  simp only at hj ⊢
  subst hj
  clear hr
  obtain ⟨si, se⟩ := s
  simp only at c1 c2 HPa
  go_enter func174, ntmps174
  go_upto_region 3 with fail
  first | (go_region_with (go_at_call 233; refine (HPa.out _ zX).mono ?_; rintro e w1 ⟨⟨B, n, rfl, ho⟩, hb1⟩; have hb := (show Below W.heap.size W _ from zX).trans (hb1.mono s_); have HO := a_0 (a_Z (b2 := W.heap.size) ho s_); have HS1 := a_0 (HS.out.below hb); have hz := hb.size; clear ho hb1)) | fail
  all_goals
   obtain ⟨k0, k1, k2⟩ := HS1.out.cells; have hf := HS1.out.free; have hP1 := HS1.out.lt; have HS2 := a_0 ((HS1.out.setAt j).setErr x); have HO2 := a_0 (a_v (a_v HO.out (a_d (g_ _ (some P)) 1 (.int .i64 (j : Int))) o_) (a_d (g_ _ (some P)) 2 (.int .i64 x)) o_); have HG2 := a_0 (a_d (b := P) (a_d (b := P) (a_1 hb) 1 (.int .i64 (j : Int))) 2 (.int .i64 x))
   go_wp2
   go_ret
   exact ⟨⟨B, n, rfl, HO2.out⟩, HS2.out, HG2.out⟩
 ·have HX := a_0 (show b_J ts s = ([], s) from by unfold b_J; rw [if_pos he])
  have hb : (s.e != 0) = true := by simpa using he
  have HS := a_0 hS
  rw [HX.out]
  clear HX hS he
  go_enter func174, ntmps174
  go_wp2
  go_ret
  exact ⟨⟨none, 0, rfl, a_o _ _ _ _⟩, HS.out, g_ _ _⟩
set_option maxRecDepth 512
def b_a (ts : List Tok) (c : List It) (s : QSt) : List It × QSt :=
 let a := a_7 ts s
 let b := b_J ts (a_c ts a.2 5 wEq)
 (c ++ [⟨a.1, 0, [], 0, b.1⟩], b.2)
def c_4 (ts : List Tok) (c : List It) (s : QSt) : List It × QSt :=
 let a := a_7 ts s
 let b := a_7 ts (a_c ts a.2 5 wEq)
 (c ++ [⟨a.1, 0, b.1, 0, []⟩], b.2)
def b_5 (ts : List Tok) (wf : a_3 → Int) (s : QSt) : It × QSt :=
 let a := a_7 ts s
 let b := a_c ts a.2 5 wEq
 if a_e ts b = true ∧ wf (tk ts b.i).text ≠ 0 then
  let c := inT ts (a_c ts ⟨b.i + 1, 0⟩ 5 f_0)
  (⟨a.1, wf (tk ts b.i).text, c.1, c.2.1, []⟩, a_c ts c.2.2 5 c_Z)
 else (⟨a.1, 0, [], 0, []⟩, b.fail 3)
def b_n (ts : List Tok) (wf : a_3 → Int) (c : List It) (s : QSt) : List It × QSt := (c ++ [(b_5 ts wf s).1], (b_5 ts wf s).2)
def c_6 (x : a_3) : Int := d_2 d_y x
def b_g (x : a_3) : Int := d_2 c_g x
def b_f (x : a_3) : Int := d_2 b_o x
def b_G (ts : List Tok) (op : Int) (s : QSt) : List It × QSt :=
 if isT ts s 5 a_M = true ∧ (op = 4 ∨ op = 5) then d_1 ts (c_4 ts) (ts.length + 1) [] ⟨s.i + 1, 0⟩ else ([], s)
def f_2 (d : Bool) (ts : List Tok) (op : Int) (s : QSt) : Stp × QSt :=
 let a := a_7 ts s
 let b := a_t d ts (a_c ts a.2 1 wOn)
 let c := b_G ts op b.2
 (⟨op, a.1, b.1.1, b.1.2, c.1, []⟩, c.2)
def e_z (d : Bool) (ts : List Tok) (s : QSt) : Stp × QSt :=
 let a := if a_e ts s = true then a_u d ts s else ([], s)
 let b := a_c ts a.2 5 a_M
 let c := if a_e ts b = true ∧ a_9 (tk ts (b.i + 1)) wEq = true then a_z d ts (b_n ts c_6) [] b else ([], b)
 (⟨11, [], a.1, [], c.1, []⟩, c.2)
def d_m (d : Bool) (ts : List Tok) (s : QSt) : Stp × QSt :=
 let a := if a_e ts s = true ∧ isT ts s 1 wBy = false then a_u d ts s else ([], s)
 let b := a_c ts a.2 1 wBy
 let c := if a_e ts b = true then a_u d ts b else ([], b)
 let x := a_z d ts (b_n ts b_g) [] (a_c ts c.2 5 a_M)
 (⟨12, [], a.1, c.1, x.1, []⟩, x.2)
def b_2 (d : Bool) (ts : List Tok) (op : Int) (s : QSt) : Stp × QSt :=
 if op = 1 then (⟨1, [], [], [], [], (b_J ts s).1⟩, (b_J ts s).2)
 else if op = 2 then (⟨2, [], [], [], (a_z d ts (b_a ts) [] s).1, []⟩, (a_z d ts (b_a ts) [] s).2)
 else if op = 3 then (⟨3, [], (a_u d ts s).1, [], [], []⟩, (a_u d ts s).2)
 else if op = 4 ∨ op = 5 ∨ op = 6 ∨ op = 7 then f_2 d ts op s
 else if op = 8 ∨ op = 9 then (⟨op, (a_7 ts s).1, [], [], [], []⟩, (a_7 ts s).2)
 else if op = 10 then (⟨10, [], [], [], [], []⟩, s)
 else if op = 11 then e_z d ts s else d_m d ts s
def c_d (d : Bool) (ts : List Tok) : Nat → List Stp → QSt → List Stp × QSt
 | 0, l, s => (l, s)
 | G + 1, l, s =>
  if isT ts s 5 q_D = true then
   if (tk ts (s.i + 1)).kind = 1 ∧ b_f (tk ts (s.i + 1)).text ≠ 0 then
    c_d d ts G (l ++ [(b_2 d ts (b_f (tk ts (s.i + 1)).text) ⟨s.i + 2, 0⟩).1]) (b_2 d ts (b_f (tk ts (s.i + 1)).text) ⟨s.i + 2, 0⟩).2
   else (if d = true then l ++ [j_J] else l, ⟨s.i + 1, 3⟩)
  else (l, s)
def a_w (d : Bool) (ts : List Tok) (s : QSt) : List Stp × QSt :=
 let a := a_7 ts (a_c ts s 1 d_7)
 c_d d ts (ts.length + 1) [⟨0, a.1, [], [], [], []⟩] a.2
def qaS (ts : List Tok) (a : Int) : List Stp × Int × Int :=
 if a_O ts = false then ([], 0, 8)
 else if a < 0 ∨ (ts.length : Int) ≤ a then ([], 0, 1)
 else
  let r := a_w false ts ⟨a.toNat, 0⟩
  let e := if r.2.e = 0 then a_E r.1 else r.2.e
  if e ≠ 0 then ([], r.2.i, e) else (r.1, r.2.i, 0)
def qpS (l : a_3) : List Stp × Int × Int := match b_z l with
 | .error x => ([], (x.1 : Nat), x.2)
 | .ok ts =>
  if (qaS ts 0).2.2 = 0 then (if (tk ts (qaS ts 0).2.1.toNat).kind = 0 then ((qaS ts 0).1, 0, 0) else ([], (tk ts (qaS ts 0).2.1.toNat).off, 3))
  else ([], (tk ts (qaS ts 0).2.1.toNat).off, (qaS ts 0).2.2)
theorem k_Z {ts : List Tok} (hv : a_O ts = true) (wf : a_3 → Int) (s : QSt) : Go ts.length s (b_5 ts wf s).2 := by
 have h1 := (a_V hv s).trans (a_H hv (a_7 ts s).2 (k := 5) d_ wEq)
 unfold b_5
 simp only
 split
 ·rename_i h
  refine h1.trans (Go.trans (Go.trans (Go.trans (b := ⟨(a_c ts (a_7 ts s).2 5 wEq).i + 1, 0⟩) ?_ (a_H hv _ (k := 5) d_ f_0)) (u_j hv _)) (a_H hv _ d_ _))
  exact ⟨fun hi => b_r hv hi h.1, fun _ => ⟨(a_D h.1).1, Nat.le_succ _⟩⟩
 ·exact h1.trans (h_o _ _ d_)
theorem g_r {ts : List Tok} (hv : a_O ts = true) : f_5 ts (b_a ts) := fun _ s hi =>
 have h1 := (a_V hv s).trans (a_H hv (a_7 ts s).2 (k := 5) d_ wEq)
 h1.trans (l_5 hv _ (h1.lt hi))
theorem h_S {ts : List Tok} (hv : a_O ts = true) : f_5 ts (c_4 ts) := fun _ s _ =>
 ((a_V hv s).trans (a_H hv (a_7 ts s).2 (k := 5) d_ wEq)).trans (a_V hv _)
theorem e_W {ts : List Tok} (hv : a_O ts = true) (wf : a_3 → Int) : f_5 ts (b_n ts wf) := fun _ s _ => k_Z hv wf s
set_option maxRecDepth 100000
theorem n_e (W0 W1 W : World) (P Bp Bs : Nat) (A : Option Addr) (ts : List Tok) (cc : Nat) (c : List It) (s : QSt) (hv : a_O ts = true) (hS : QPt QT W P A ts cc s) (hC : ∃ I n es, BxC W0 P Bp Bs 2 [] [] [] none 0 none 0 W1 W c I n es) (hi : s.i < ts.length) (hl : ts.length ≤ 1000000) (hc : c.length ≤ 2000000) :
  Calls prog 235 #[a_G Bp, a_G Bs] W fun e w' => e = .returned (.tuple #[]) ∧ QPt QT w' P A ts cc (b_a ts c s).2 ∧ ∃ I n es, BxC W0 P Bp Bs 2 [] [] [] none 0 none 0 W1 w' (b_a ts c s).1 I n es := by
 obtain ⟨i0, hi0, hz0, hz1, hz2⟩ := info_parts Tryz.info_it
 obtain ⟨I, n, es, hC⟩ := hC
 have h1 := hC.pb.lt
 have h2 := hC.pb.le
 have h3 := hC.ne
 have hw1 := a_6 hC.box
 have hw2 := a_6 hC.pb.box
 refine t_L ?_; intro HC HS hb0
 simp at hb0
 refine v_I ?_; intro g1 g2 hi1 hi2 HN HSy
 have HEx := a_0 (fun (W' : World) (h : QPt QT W' P A ts cc (a_c ts (a_7 ts s).2 5 wEq)) => q_G W' P A ts cc _ hv h hi2 hl)
 clear hS hC g1 g2 hi1 hi2 hi hv
 have HD := a_0 (show b_a ts c s = (c ++ [⟨(a_7 ts s).1, 0, [], 0, (b_J ts (a_c ts (a_7 ts s).2 5 wEq)).1⟩], (b_J ts (a_c ts (a_7 ts s).2 5 wEq)).2) from rfl)
 rw [HD.out]
 clear HD
 generalize b_J ts (a_c ts (a_7 ts s).2 5 wEq) = r3 at *
 generalize a_c ts (a_7 ts s).2 5 wEq = s2 at *
 generalize a_7 ts s = r1 at *
 obtain ⟨x, s1⟩ := r1
 obtain ⟨ex, s3⟩ := r3
 simp only at HN HSy HEx ⊢
 go_enter func235, ntmps235
 go_wp2_with fail
 refine HN.out.mono ?_
 rintro e w1 ⟨rfl, hq1⟩
 have hz1' := hq1.gr.size
 have hp1 := hq1.pt.lt
 have p1 := a_r hq1.gr HC.out.pb.box o_
 have e1 := a_2 p1 0
 simp at e1
 have HP1 := a_0 p1
 refine s_3 ?_; intro HQ1 HG1
 clear hq1 HN p1 hb0
 have l2 : Bp < w1.heap.size := by omega
 have l1 : Bs < w1.heap.size := by omega
 go_wp2_with fail
 refine (HSy.out _ (HQ1.out.below zX)).mono ?_
 rintro e w2 ⟨rfl, hq2⟩
 have hz2' := hq2.gr.size
 simp at hz2'
 refine v_w ?_; intro p2 x2 e2
 simp at e2
 have HP2 := a_0 p2
 refine _ai ?_; intro HX2 HQ2 HG2
 clear hq2 p2 x2 e1 HSy HP1 HQ1 HG1
 go_wp2_with fail
 refine (HEx.out w2 HQ2.out).mono ?_
 rintro e w3 ⟨⟨B, n3, rfl, ho3⟩, hq3⟩
 refine w_4 ?_; intro hz3' p3 x3 s3c
 have d0 := a_2 x3 4
 have d1 := b_1 x3 4
 have b0 := a_2 s3c 4
 simp at d0 b0
 have l3 : w1.heap.size < w3.heap.size := by omega
 have l4 : Bs < w3.heap.size := by omega
 have y3 : (w3.setCell ⟨w1.heap.size, 4, none⟩ (.slice B ex.length n3)).heap[w1.heap.size]? = some (.cells #[str x, .int .i64 0, str [], .int .i64 0, .slice B ex.length n3] 61 (0, 0)) := by
  have := heap_setCell_same w3 w1.heap.size 4 _ _ (.slice B ex.length n3) x3
  simpa using this
 refine v_L ?_; intro g3s HY HG3 HQ3 HF3
 have HO3 := a_0 (a_v HC.out.own HG3.out o_)
 have hl := a_0 (fun j e => (HC.out.own.lt j e).1)
 have b0' : (w3.setCell ⟨w1.heap.size, 4, none⟩ (.slice B ex.length n3)).cell? ⟨Bs, 4, none⟩ = some (.slice I c.length n) := by
  have := a_2 (a_r HG3.out HC.out.box o_) 4
  simpa using this
 clear hq3 ho3 p3 x3 y3 g3s s3c HEx HX2 HP2 HQ2 HG2 e2
 refine v_7 ?_; intro k0 k1 k2 k3 k4
 simp at k0 k1 k2 k3 k4
 go_wp2_with (at_builtin; refine wpList_append_own _ rfl _ _ 24 rfl (Bs + 1) 61 i0 _ 5 72 underlying24 hi0 hz0 hz1 hz2 rfl d_ _ _ _ rfl (a_8 HO3.out zX) ⟨_, 0, none⟩ 1 1 [str x, .int .i64 0, str [], .int .i64 0, .slice B ex.length n3] rfl rfl (by exact f_k (b_d s_)) c_ x_ o_ m_ ?_; intro v4 w4 o4 g4 _; obtain ⟨B4, n4, rfl⟩ := a_i o4; have hbx : Below (w3.setCell ⟨w1.heap.size, 4, none⟩ (.slice B ex.length n3)).heap.size (w3.setCell ⟨w1.heap.size, 4, none⟩ (.slice B ex.length n3)) _ := Below.alloc (b_ _ _) (l_ _) (.cells #[str x, .int .i64 0, str [], .int .i64 0, .slice B ex.length n3] 61); have b4 := c_F HC.out.box (a_h HG3.out hbx) o_ g4 (fun j e => Nat.lt_of_succ_le (hl.out j e)); have q0 := a_2 b4 4; have q1 := b_1 b4 4; simp at q0; have HF := a_0 (BxC.done (x := ⟨x, 0, [], 0, ex⟩) (ec := n3) HC.out HS.out (HQ3.out.below hbx) (a_h HG3.out hbx) (HF3.out.keep (a_I.of_below hbx)) g4 o4); clear o4 g4 b4 hbx)
 go_end0
 exact _au
set_option maxRecDepth 512
theorem b_7 {w : World} {base e size n c : Nat} {A : Option Addr} {xs : List Value} (h : w.ownsRow base e size (.slice A n c) n xs) : n ≤ c := by
 rcases h.2 with ⟨hv, hn⟩ | ⟨g, cap, cur, hv, _, _, hnc, _⟩
 ·omega
 ·injection hv with _ _ h3
  subst h3
  exact hnc
theorem e_v {w : World} {base c : Nat} {B : Option Addr} {xs : List It} {es : List (Option Addr × Nat)} (ho : w.ownsRow base 61 5 (.slice B xs.length c) xs.length (b_T xs es)) (hl : es.length = xs.length)
  (hf : b_b [ 116 ] (fun v => ∀ i (h : i < xs.length) (h' : i < es.length), c_L v es[i].1 xs[i].expr) w) : b_b tI (fun v => f_r v B xs) w := fun v hv =>
 q_R hl (b_b.of_own (l := tI) ho d_ (F := fun v => v.ownsRow base 61 5 (.slice B xs.length c) xs.length (b_T xs es)) (fun _ h => h) v hv) (hf v (hv.sub (fun t ht => by simp at ht; simp [ht])))
theorem l_z {w : World} {base c : Nat} {A : Option Addr} {l : List a_3} (h : w.ownsRow base 9 1 (.slice A l.length c) l.length (l.map str)) : b_l w A l := by
 rcases h.2 with ⟨_, hn⟩ | ⟨g, cap, cur, hv, hg, hh, _⟩
 ·exact .inl (List.eq_nil_of_length_eq_zero hn)
 ·injection hv with h1 _ _
  subst h1
  refine .inr ⟨g, 0, rfl, a_6 hh, fun i hi => ?_⟩
  have := World.ownsRow.cellAt h i (by simpa using hi)
  simpa [hi] using this
theorem b_O {w : World} {k : Nat} {o : Obj} (h : w.heap[k]? = some o) (x : Obj) : (w.alloc x).heap[k]? = some o :=
 ((Below.alloc (b_ _ w) (l_ _) x).block k (a_6 h)).trans h
theorem b_i {w : World} {base c : Nat} {B : Option Addr} {xs : List a_3} {l : List TypeId} (hl : 9 ∈ l) (ho : w.ownsRow base 9 1 (.slice B xs.length c) xs.length (xs.map str)) : b_b l (fun v => b_l v B xs) w :=
 b_b.of_own ho hl fun v h => l_z h
def RbS (w : World) (r : Nat) : Prop := ∃ cs, w.heap[r]? = some (.cells cs 27 (0, 0))
theorem g_o {l : List TypeId} (hl : 27 ∉ l) {w : World} {r : Nat} (h : RbS w r) (i : Nat) (v : Value) : RbS (w.setCell ⟨r, i, none⟩ v) r ∧ a_I l w (w.setCell ⟨r, i, none⟩ v) := by
 obtain ⟨cs, h⟩ := h
 refine ⟨⟨_, heap_setCell_same w r i _ _ v h⟩, a_I.of_grown (a_d (g_ w (some r)) i v) fun k e => by injection e with e; subst e; exact ⟨_, _, _, h, hl⟩⟩
theorem c_8 {l : List TypeId} {T : TypeId} (hl : 27 ∉ l) {W w1 : World} {P r cc : Nat} {A : Option Addr} {ts : List Tok} {s : QSt} (hR : RbS w1 r) (hq : QPt T w1 P A ts cc s) (hW : W.grownBy w1 (some P)) (hr : W.heap.size ≤ r) (hP : P < W.heap.size) (x : Stp) (a : Adr) (hF : b_b l (fun v => x.At v a) w1) (v0 v1 v2 v3 v4 v5 : Value) :
  b_b l (fun v => x.At v a) ((((((w1.setCell ⟨r, 0, none⟩ v0).setCell ⟨r, 1, none⟩ v1).setCell ⟨r, 2, none⟩ v2).setCell ⟨r, 3, none⟩ v3).setCell ⟨r, 4, none⟩ v4).setCell ⟨r, 5, none⟩ v5) ∧
   QPost T W P A ts cc s ((((((w1.setCell ⟨r, 0, none⟩ v0).setCell ⟨r, 1, none⟩ v1).setCell ⟨r, 2, none⟩ v2).setCell ⟨r, 3, none⟩ v3).setCell ⟨r, 4, none⟩ v4).setCell ⟨r, 5, none⟩ v5) := by
 obtain ⟨h0, k0⟩ := g_o hl hR 0 v0
 obtain ⟨h1, k1⟩ := g_o hl h0 1 v1
 obtain ⟨h2, k2⟩ := g_o hl h1 2 v2
 obtain ⟨h3, k3⟩ := g_o hl h2 3 v3
 obtain ⟨h4, k4⟩ := g_o hl h3 4 v4
 obtain ⟨h5, k5⟩ := g_o hl h4 5 v5
 have g : w1.grownBy ((((((w1.setCell ⟨r, 0, none⟩ v0).setCell ⟨r, 1, none⟩ v1).setCell ⟨r, 2, none⟩ v2).setCell ⟨r, 3, none⟩ v3).setCell ⟨r, 4, none⟩ v4).setCell ⟨r, 5, none⟩ v5) (some r) := a_d (a_d (a_d (a_d (a_d (a_d (g_ _ _) _ _) _ _) _ _) _ _) _ _) _ _
 exact ⟨hF.keep (k0.trans (k1.trans (k2.trans (k3.trans (k4.trans k5))))), hq.gr g (fun j e => by injection e with e; omega), hW.andThen g (fun j e => .inl j_)⟩
set_option maxRecDepth 100000
theorem p_k (W : World) (P : Nat) (A : Option Addr) (ts : List Tok) (cc : Nat) (s : QSt) (hv : a_O ts = true) (hS : QPt QT W P A ts cc s) (hi : s.i < ts.length) (hl : ts.length ≤ 1000000) :
  Calls prog 175 #[a_G P] W fun e w' => k_P w' (b_2 false ts 2 s).1 e ∧ QPost QT W P A ts cc (b_2 false ts 2 s).2 w' := by
 have hP := hS.lt
 refine p_0 ?_; intro hmf
 obtain ⟨W2, hW2⟩ : ∃ W2, W2 = (W.alloc (.cells #[a_G P] 88)).alloc (.cells #[.int .i64 0, str [], .slice none 0 0, .slice none 0 0, .slice none 0 0, .slice none 0 0] 27) := ⟨_, rfl⟩
 obtain ⟨W3, hW3⟩ : ∃ W3, W3 = W2.alloc (.cells #[.int .i64 2, str [], .slice none 0 0, .slice none 0 0, .slice none 0 0, .slice none 0 0] 27) := ⟨_, rfl⟩
 have HE := a_0 (fun (w1 : World) (h1 : ∃ I n es, BxC W2 P W.heap.size (W.heap.size + 2) 2 [] [] [] none 0 none 0 W3 w1 [] I n es) (h2 : QPt QT w1 P A ts cc s) => i_W 235 #[a_G W.heap.size, a_G (W.heap.size + 2)] P A ts cc hv hl (fun w c => ∃ I n es, BxC W2 P W.heap.size (W.heap.size + 2) 2 [] [] [] none 0 none 0 W3 w c I n es) (b_a ts) (g_r hv) List.length (fun x s => by simp [b_a]) 2000000
  (fun args W => by kernel_rfl) (fun W W' x s h1 h2 g => by obtain ⟨I, n, es, h⟩ := h2; exact ⟨I, n, es, h.step h1 g⟩) (fun W x s h1 h2 h3 h4 h5 => n_e _ _ W P _ _ A ts cc x s hv h1 h2 h4 hl h5) w1 [] s h2 h1 hi m_)
 have HX := a_0 (show b_2 false ts 2 s = (⟨2, [], [], [], (a_z false ts (b_a ts) [] s).1, []⟩, (a_z false ts (b_a ts) [] s).2) from rfl)
 rw [HX.out]
 generalize a_z false ts (b_a ts) [] s = r at *
 obtain ⟨c, s'⟩ := r
 simp only at HE ⊢
 have HS := a_0 hS
 have HI := a_0 (show ∃ I n es, BxC W2 P W.heap.size (W.heap.size + 2) 2 [] [] [] none 0 none 0 W3 W3 [] I n es from
  ⟨none, 0, [], ⟨⟨hW3 ▸ World.grownBy_alloc _ _ _, by rw [hW2]; simp; omega, hP, by rw [hW3, hW2]; exact b_O (b_O (heap_alloc_new W _) _) _⟩, by rw [hW2]; simp, o_, a_I.refl _ _, by rw [hW3]; exact b_d (by rw [hW2]; simp), a_o _ _ _ _, rfl, fun v _ i h => absurd h s_⟩⟩)
 refine u_l ?_; intro HR HW HQ3
 subst hW2
 subst hW3
 clear hS HX
 go_enter func175, ntmps175
 go_wp2_with fail
 refine (HE.out _ HI.out HQ3.out).mono ?_
 rintro e w1 ⟨rfl, hq, I, n, es, hc⟩
 have hR := a_r hc.pb.gr HR.out o_
 refine t_z ?_; intro b0 b1 b2 b3 b4 b5
 refine t_X ?_; intro r0 r1 r2 r3 r4
 have r5 := a_2 hR 5
 have fr := b_1 hR
 simp at b0 b1 b2 b3 b4 b5 r0 r1 r2 r3 r4 r5
 have hlR := a_6 hR
 have hlB := a_6 hc.box
 have HF := a_0 (fun v0 v1 v2 v3 v4 v5 => c_8 d_ (r := W.heap.size + 1) ⟨_, hR⟩ hq (HW.out.trans hc.pb.gr) o_ hP ⟨2, [], [], [], c, []⟩ ⟨none, 0, none, 0, I, n, none, 0⟩ (fun v hv => ⟨.inl rfl, .inl rfl, e_v hc.own hc.len hc.firm v hv, .inl rfl, l_ _, l_ _, b_7 hc.own⟩) v0 v1 v2 v3 v4 v5)
 clear hq hc HE HI HQ3 hR HR HW HS
 go_wp2
 obtain ⟨hf, hp⟩ := HF.out (.int .i64 2) (str []) (.slice none 0 0) (.slice none 0 0) (.slice I c.length n) (.slice none 0 0)
 exact bodyPost_ret (v := .agg #[.int .i64 2, str [], .slice none 0 0, .slice none 0 0, .slice I c.length n, .slice none 0 0]) (by simp [results, results175, go_sem, r0, r1, r2, r3, r4, r5]) rfl ⟨⟨_, rfl, hf⟩, hp⟩
set_option maxRecDepth 100000
theorem m_q {w : World} {A : Option Addr} {ss : List Stp} (h : d_l w A ss) {k : Nat} (hk : k < ss.length) : ∃ g off, A = some ⟨g, off, none⟩ ∧ g < w.heap.size ∧ o_F w g (off + k * 6) ss[k] := by
 rcases h with e | ⟨g, off, rfl, hg, hc⟩
 ·rw [e] at hk; simp at hk
 ·exact ⟨g, off, rfl, hg, hc k hk⟩
theorem q_7 (A : Option Addr) (ss : List Stp) (c : Nat) (w : World) (hS : d_l w A ss) (hV : Calls prog 17 #[.slice A ss.length c] w fun e w' => e = .returned (.int .i64 (a_E ss)) ∧ Below w.heap.size w w')
  (hw : a_E ss = 0 → ∀ W x a, x ∈ ss → Below w.heap.size w W → x.At W a → Calls prog 80 #[x.agg a] W fun e w' => e = .returned (str (d_x x)) ∧ Below W.heap.size W w')
  (hlen : a_E ss = 0 → ss.length ≤ 16 ∧ (k_z ss).length ≤ 100000000) :
  Calls prog 31 #[.slice A ss.length c] w fun e w' => e = .returned (.tuple #[str (q_K ss).1, .int .i64 (q_K ss).2]) ∧ Below w.heap.size w w' := by
 obtain ⟨i0, hi0, hz0, hz1, hz2⟩ := info_parts Tryz.info_txt
 have HV := a_0 hV
 have HS := a_0 hS
 by_cases hq : a_E ss = 0
 ·have HW := a_0 (hw hq)
  obtain ⟨h16, hl⟩ := hlen hq
  have HF := a_0 (show q_K ss = if 65536 < (k_z ss).length then ([], 2) else (k_z ss, 0) from by unfold q_K; rw [if_neg (by simp [hq])])
  have HT := a_0 (show k_z ss = List.intercalate [32, 124, 32] (ss.map d_x) from rfl)
  rw [hq] at HV
  generalize k_z ss = t at *
  clear hV hS hw hlen hq
  go_enter func31, ntmps31
  go_wp2_with fail
  refine HV.out.mono ?_
  rintro e w1 ⟨rfl, hb1⟩
  have hz1' := hb1.size
  have HB0 := a_0 hb1
  clear hb1 HV
  go_wp2_with fail
  go_loopw [5, 16] (fun s5 s16 wr => ∃ (k : Nat) (A' : Option Addr) (c' : Nat), s5 = .slice A' k c' ∧ s16 = .int .i64 k ∧ k ≤ ss.length ∧ Hid (wr.ownsRow w.heap.size 9 1 (.slice A' k c') k (((ss.take k).map d_x).map str)) ∧ Hid (Below w.heap.size w wr)) (fun _ i _ => ss.length - (intOf i).toNat)
  case atStart => exact ⟨0, none, 0, rfl, rfl, Nat.zero_le _, a_0 (a_o _ _ _ _), HB0⟩
  case round =>
   clear HB0; obtain ⟨k, A', c', rfl, rfl, hk, HO, HB⟩ := hrel; have hzr := HB.out.size; have hbw := HB.out
   by_cases hlt : k < ss.length
   ·obtain ⟨g, off, rfl, hg, ⟨nA, nC, oA, oC, iA, iC, cA, cC⟩, hA, a0, a1, a2, a3, a4, a5⟩ := m_q HS.out hlt
    have HC := a_0 (fun W (hb : Below w.heap.size w W) => HW.out W ss[k] ⟨nA, nC, oA, oC, iA, iC, cA, cC⟩ s_ hb (hA.below hb))
    have HK := a_0 (show ((ss.take (k + 1)).map d_x).map str = ((ss.take k).map d_x).map str ++ [str (d_x ss[k])] from by
     rw [List.take_succ_eq_append_getElem hlt, List.map_append, List.map_append]; rfl)
    have hkI : (k : Int) < (ss.length : Int) := by omega
    replace a0 := (hbw.cell (p := ⟨g, _, none⟩) hg).trans a0; replace a1 := (hbw.cell (p := ⟨g, _, none⟩) hg).trans a1; replace a2 := (hbw.cell (p := ⟨g, _, none⟩) hg).trans a2; replace a3 := (hbw.cell (p := ⟨g, _, none⟩) hg).trans a3; replace a4 := (hbw.cell (p := ⟨g, _, none⟩) hg).trans a4; replace a5 := (hbw.cell (p := ⟨g, _, none⟩) hg).trans a5; clear hA; generalize ss[k] = y at *; generalize d_x y = q at *; obtain ⟨y0, y1, y2, y3, y4, y5⟩ := y; simp only at a0 a1 a2 a3 a4 a5 HC
    go_wp2_with fail
    refine (HC.out _ zX).mono ?_; rintro e w5 ⟨rfl, hb5⟩; have hb6 : Below w.heap.size w w5 := a_n hb5 zX; have HO5 := a_0 (a_8 HO.out (a_n hb5 zX)); have hz6 := hb6.size; have HB6 := a_0 hb6; clear hb5 HO HB hbw a0 a1 a2 a3 a4 a5 HC hb6
    go_wp2_with (at_builtin; refine wpList_append_own _ rfl _ _ 23 rfl w.heap.size 9 i0 _ 1 16 underlying23 hi0 hz0 hz1 hz2 rfl d_ _ _ _ rfl (a_8 HO5.out zX) ⟨_, 0, none⟩ 1 1 [str q] rfl rfl (by exact d_L (b_d s_)) c_ x_ o_ m_ ?_; intro v4 w7 o4 g4 _; obtain ⟨B4, n4, rfl⟩ := a_i o4; have hb7 : Below w.heap.size w w7 := ((HB6.out.trans ((Below.alloc (b_ _ w5) (l_ _) _).mono hz6))).grown g4 m_ (fun k e => ((a_8 HO5.out zX).lt k e).1))
    exact ⟨⟨k + 1, B4, n4, rfl, s_, o_, a_0 (by rw [HK.out]; exact o4), a_0 hb7⟩, w_⟩
   ·have hkl : k = ss.length := by omega
    subst hkl; have hsa : b_l wr A' (ss.map d_x) := l_z (w := wr) (base := w.heap.size) (c := c') (by have := HO.out; rw [List.take_length] at this; rw [List.length_map]; exact this)
    have HJ := a_0 (show Calls prog 81 #[.slice A' ss.length c', .string ⟨#[32, 124, 32]⟩] wr (fun e w' => e = .returned (str t) ∧ Below wr.heap.size wr w') from by
     have h := i_a A' c' (ss.map d_x) [32, 124, 32] wr hsa (by have := b_7 HO.out; simpa using this) m_ (by rw [← HT.out]; omega); rw [← HT.out, List.length_map] at h
     exact h)
    clear hsa
    go_wp2_with fail
    refine HJ.out.mono ?_; rintro e w6 ⟨rfl, hb6⟩; have hb7 := a_0 (a_n hb6 hbw)
    by_cases h6 : 65536 < t.length
    ·have h6i : (65536 : Int) < (t.length : Int) := by omega
     have HF2 := a_0 (HF.out.trans (if_pos h6))
     go_wp2
     refine c_J rfl ?_; apply Exists.intro; apply And.intro
     ·simp [results, results31, go_sem]
      rfl
     ·rw [HF2.out]
      exact ⟨rfl, hb7.out⟩
    ·have h6i : ¬ ((65536 : Int) < (t.length : Int)) := by omega
     have HF2 := a_0 (HF.out.trans (if_neg h6))
     go_wp2
     refine c_J rfl ?_; apply Exists.intro; apply And.intro
     ·simp [results, results31, go_sem]
      rfl
     ·rw [HF2.out]
      exact ⟨rfl, hb7.out⟩
 ·have HF := a_0 (show q_K ss = ([], a_E ss) from by unfold q_K; rw [if_pos hq])
  have hqn : (a_E ss != 0) = true := by simpa using hq
  generalize a_E ss = q at *
  clear hV hS hw hlen hq
  go_enter func31, ntmps31
  go_wp2_with fail
  refine HV.out.mono ?_
  rintro e w1 ⟨rfl, hb1⟩
  go_wp2
  refine c_J rfl ?_
  apply Exists.intro
  apply And.intro
  ·simp [results, results31, go_sem]
   rfl
  ·rw [HF.out]
   exact ⟨rfl, hb1⟩
abbrev QR : TypeId := 94
set_option maxRecDepth 100000
theorem g_9 (W : World) (P : Nat) (A : Option Addr) (ts : List Tok) (c : Nat) (s : QSt) (hS : QPt QR W P A ts c s) (k : Nat) (hi : s.i + k < ts.length) (hl : ts.length ≤ 1000000) :
  Calls prog 190 #[.pointer (some ⟨P, 0, none⟩), .int .i64 k] W fun e' w' => e' = .returned (tk ts (s.i + k)).agg ∧ Below W.heap.size W w' := by
 obtain ⟨c0, c1, c2⟩ := hS.cells
 obtain ⟨g, off, rfl, hgP, t0, t1, t2, t3⟩ := hS.tok.at_ hi
 have hP := hS.lt
 refine p_Z ?_; intro hg
 clear hS
 obtain ⟨i, e⟩ := s
 simp only at c1 c2 t0 t1 t2 t3 hi ⊢
 refine w_t ?_; intro hw1 hw2 hmin
 generalize tk ts (i + k) = t at *
 obtain ⟨tk0, tk1, tk2, tk3⟩ := t
 simp only at t0 t1 t2 t3
 go_enter func190, ntmps190
 go_wp2
 go_region
 go_wp2
 refine c_J rfl ?_
 apply Exists.intro
 apply And.intro
 ·simp [results, results190, go_sem]
  rfl
 ·exact ⟨rfl, zX⟩
theorem o_o (W : World) (P : Nat) (A : Option Addr) (ts : List Tok) (c : Nat) (s : QSt) (hS : QPt QR W P A ts c s) (k : Nat) (hi : s.i + k < ts.length) (hl : ts.length ≤ 1000000) (x : a_3) :
  Calls prog 119 #[.pointer (some ⟨P, 0, none⟩), .int .i64 k, str x] W fun e' w' => e' = .returned (.bool (s.e == 0 && a_9 (tk ts (s.i + k)) x)) ∧ Below W.heap.size W w' := by
 have HPk := a_0 (g_9 W P A ts c s hS k hi hl)
 have HS := a_0 hS
 have HX := a_0 (show a_9 (tk ts (s.i + k)) x = ((tk ts (s.i + k)).kind == 5 && (tk ts (s.i + k)).text == x) from rfl)
 clear hS
 generalize a_9 (tk ts (s.i + k)) x = v at *
 generalize tk ts (s.i + k) = t at *
 obtain ⟨tk0, tk1, tk2, tk3⟩ := t
 obtain ⟨si, se⟩ := s
 simp only at HX
 go_enter func119, ntmps119
 go_wp2_with fail
 refine HPk.out.mono ?_
 rintro e1 w1 ⟨rfl, hb1⟩
 have hz1 := hb1.size
 refine q_4 ?_; intro hS1 c0 c1 c2 hP
 clear hS1
 simp only at c1 c2
 go_wp2
 all_goals
  go_ret
  have hx := HX.out
  exact ⟨by simp_all, zX⟩
theorem h_d (W : World) (P : Nat) (A : Option Addr) (ts : List Tok) (c : Nat) (s : QSt) (hS : QPt QR W P A ts c s) (hi : s.i < ts.length) (hl : ts.length ≤ 1000000) (x : a_3) :
  Calls prog 188 #[.pointer (some ⟨P, 0, none⟩), str x] W fun e' w' => e' = .returned (.bool (isT ts s 1 x)) ∧ Below W.heap.size W w' := by
 have HPk := a_0 (g_9 W P A ts c s hS 0 hi hl)
 have HS := a_0 hS
 have HX := a_0 (show isT ts s 1 x = (s.e == 0 && (tk ts s.i).kind == 1 && (tk ts s.i).text == x) from rfl)
 clear hS
 rw [Nat.add_zero] at HPk
 generalize isT ts s 1 x = v at *
 generalize tk ts s.i = t at *
 obtain ⟨tk0, tk1, tk2, tk3⟩ := t
 obtain ⟨si, se⟩ := s
 simp only at HX
 go_enter func188, ntmps188
 go_wp2_with fail
 refine HPk.out.mono ?_
 rintro e1 w1 ⟨rfl, hb1⟩
 have hz1 := hb1.size
 refine q_4 ?_; intro hS1 c0 c1 c2 hP
 clear hS1
 simp only at c1 c2
 go_wp2
 all_goals
  go_ret
  have hx := HX.out
  exact ⟨by simp_all, zX⟩
theorem e_u (W : World) (P : Nat) (A : Option Addr) (ts : List Tok) (c : Nat) (s : QSt) (hS : QPt QR W P A ts c s) (hi : s.i < ts.length) (hl : ts.length ≤ 1000000) :
  Calls prog 196 #[.pointer (some ⟨P, 0, none⟩)] W fun e' w' => e' = .returned (.bool (a_e ts s)) ∧ Below W.heap.size W w' := by
 refine q_M ?_; intro c0 c1 c2 hP
 have HN := a_0 (g_9 W P A ts c s hS 0 hi hl)
 rw [Nat.add_zero] at HN
 have HX := a_0 (show a_e ts s = (s.e == 0 && (tk ts s.i).kind == 1) from rfl)
 clear hS hi hl
 generalize a_e ts s = v at *
 generalize tk ts s.i = t at *
 obtain ⟨tk0, tk1, tk2, tk3⟩ := t
 obtain ⟨si, se⟩ := s
 simp only at c1 c2
 have HN := a_0 (show Calls prog 190 #[.pointer (some ⟨P, 0, none⟩), .int .i64 0] W (fun e' w' => e' = .returned (.agg #[.int .i64 tk0, str tk1, .int .i64 tk2, .int .i64 tk3]) ∧ Below W.heap.size W w') from HN.out)
 have f0 := l_H
 go_enter func196, ntmps196
 go_wp2_with ((with_reducible refine HN.out.mono ?_); rintro e w1 ⟨rfl, hb1⟩)
 all_goals
  exact _av
set_option maxRecDepth 512
theorem e_4 (W : World) (P : Nat) (A : Option Addr) (ts : List Tok) (c : Nat) (s : QSt) (hS : QPt QR W P A ts c s) (x : Int) :
  Calls prog 189 #[.pointer (some ⟨P, 0, none⟩), .int .i64 x] W fun e' w' => e' = .returned (.tuple #[]) ∧ QPost QR W P A ts c (s.fail x) w' := by
 refine q_M ?_; intro c0 c1 c2 hP
 have hf := hS.free
 have HS := a_0 hS
 clear hS
 by_cases he : s.e = 0
 ·have HX := a_0 (show s.fail x = ⟨s.i, x⟩ from if_pos he)
  rw [he] at c2
  go_enter func189, ntmps189
  go_wp2
  go_end0
  rw [HX.out]
  exact ⟨rfl, HS.out.setErr x, a_d (g_ _ _) _ _⟩
 ·have HX := a_0 (show s.fail x = s from if_neg he)
  have hb : (s.e == 0) = false := beq_eq_false_iff_ne.2 he
  go_enter func189, ntmps189
  go_wp2
  go_end0
  rw [HX.out]
  exact ⟨rfl, HS.out, g_ _ _⟩
set_option maxRecDepth 100000
theorem d_F (W : World) (P : Nat) (A : Option Addr) (ts : List Tok) (c : Nat) (s : QSt) (hS : QPt QR W P A ts c s) (hi : s.i < ts.length) (hl : ts.length ≤ 1000000) (x : a_3) :
  Calls prog 197 #[.pointer (some ⟨P, 0, none⟩), str x] W fun e' w' => e' = .returned (.tuple #[]) ∧ QPost QR W P A ts c (a_c ts s 5 x) w' := by
 have HI := a_0 (show Calls prog 119 #[.pointer (some ⟨P, 0, none⟩), .int .i64 0, str x] W (fun e' w' => e' = .returned (.bool (isT ts s 5 x)) ∧ Below W.heap.size W w') from by
  have h := o_o W P A ts c s hS 0 hi hl x
  rw [show (s.e == 0 && a_9 (tk ts (s.i + 0)) x) = isT ts s 5 x from (Bool.and_assoc _ _ _).symm] at h
  exact h)
 have HS := a_0 hS
 have hse := fun h => (b_3 (ts := ts) (s := s) (k := 5) (x := x) h).1
 clear hS
 unfold a_c
 generalize isT ts s 5 x = v at *
 cases v with
 | false =>
  clear hse
  simp only [Bool.false_eq_true, ↓reduceIte] at HI ⊢
  go_enter func197, ntmps197
  go_wp2_with fail
  refine HI.out.mono ?_
  rintro e w1 ⟨rfl, hb1⟩
  have HQ := a_0 (QPt.below HS.out hb1)
  have HB := a_0 hb1
  clear hb1 HI
  go_wp2_with fail
  refine (e_4 w1 P A ts c s HQ.out 3).mono ?_
  rintro e w2 ⟨rfl, hq2⟩
  go_wp2
  refine c_J rfl ?_
  apply Exists.intro
  apply And.intro
  ·simp [results, results197, go_sem]
   rfl
  ·exact ⟨rfl, hq2.pt, (a_1 HB.out).trans hq2.gr⟩
 | true =>
  have hz := hse rfl
  clear hse
  simp only [↓reduceIte] at HI ⊢
  go_enter func197, ntmps197
  go_wp2_with fail
  refine HI.out.mono ?_
  rintro e w1 ⟨rfl, hb1⟩
  refine q_4 ?_; intro hS1 c0 c1 c2 hP
  have hf := hS1.free
  have HS1 := a_0 (hS1.setAt (s.i + 1))
  rw [hz] at HS1
  clear hS1 hz
  go_wp2
  go_end0
  exact s_V
theorem e_S (W : World) (P : Nat) (A : Option Addr) (ts : List Tok) (c : Nat) (s : QSt) (hS : QPt QR W P A ts c s) (hi : s.i < ts.length) (hl : ts.length ≤ 1000000) (x : a_3) :
  Calls prog 117 #[.pointer (some ⟨P, 0, none⟩), str x] W fun e' w' => e' = .returned (.tuple #[]) ∧ QPost QR W P A ts c (a_c ts s 1 x) w' := by
 have HI := a_0 (show Calls prog 188 #[.pointer (some ⟨P, 0, none⟩), str x] W (fun e' w' => e' = .returned (.bool (isT ts s 1 x)) ∧ Below W.heap.size W w') from h_d W P A ts c s hS hi hl x)
 have HS := a_0 hS
 have hse := fun h => (b_3 (ts := ts) (s := s) (k := 1) (x := x) h).1
 clear hS
 unfold a_c
 generalize isT ts s 1 x = v at *
 cases v with
 | false =>
  clear hse
  simp only [Bool.false_eq_true, ↓reduceIte] at HI ⊢
  go_enter func117, ntmps117
  go_wp2_with fail
  refine HI.out.mono ?_
  rintro e w1 ⟨rfl, hb1⟩
  have HQ := a_0 (QPt.below HS.out hb1)
  have HB := a_0 hb1
  clear hb1 HI
  go_wp2_with fail
  refine (e_4 w1 P A ts c s HQ.out 3).mono ?_
  rintro e w2 ⟨rfl, hq2⟩
  go_wp2
  refine c_J rfl ?_
  apply Exists.intro
  apply And.intro
  ·simp [results, results117, go_sem]
   rfl
  ·exact ⟨rfl, hq2.pt, (a_1 HB.out).trans hq2.gr⟩
 | true =>
  have hz := hse rfl
  clear hse
  simp only [↓reduceIte] at HI ⊢
  go_enter func117, ntmps117
  go_wp2_with fail
  refine HI.out.mono ?_
  rintro e w1 ⟨rfl, hb1⟩
  refine q_4 ?_; intro hS1 c0 c1 c2 hP
  have hf := hS1.free
  have HS1 := a_0 (hS1.setAt (s.i + 1))
  rw [hz] at HS1
  clear hS1 hz
  go_wp2
  go_end0
  exact s_V
theorem c_V (W : World) (P : Nat) (A : Option Addr) (ts : List Tok) (c : Nat) (s : QSt) (hS : QPt QR W P A ts c s) (hi : s.i < ts.length) (hl : ts.length ≤ 1000000) :
  Calls prog 118 #[.pointer (some ⟨P, 0, none⟩)] W fun e' w' => e' = .returned (str (a_7 ts s).1) ∧ QPost QR W P A ts c (a_7 ts s).2 w' := by
 have HN := a_0 (g_9 W P A ts c s hS 0 hi hl)
 rw [Nat.add_zero] at HN
 have HS := a_0 hS
 have HX := a_0 (show a_7 ts s = if s.e = 0 ∧ (tk ts s.i).kind = 1 then ((tk ts s.i).text, ⟨s.i + 1, 0⟩) else ([], s.fail 3) from by unfold a_7 a_e; by_cases h : s.e = 0 <;> by_cases h2 : (tk ts s.i).kind = 1 <;> simp [h, h2])
 clear hS
 generalize a_7 ts s = r at *
 generalize tk ts s.i = t at *
 obtain ⟨tk0, tk1, tk2, tk3⟩ := t
 by_cases hb : s.e = 0 ∧ tk0 = 1
 ·have HR := a_0 (HX.out.trans (if_pos hb))
  rw [HR.out]
  obtain ⟨he, rfl⟩ := hb
  clear HX HR
  go_enter func118, ntmps118
  go_wp2_with fail
  refine HN.out.mono ?_
  rintro e w1 ⟨rfl, hb1⟩
  have hz1 := hb1.size
  refine q_4 ?_; intro hS1 c0 c1 c2 hP
  have hf := hS1.free
  rw [he] at c2
  have HS1 := a_0 (hS1.setAt (s.i + 1))
  rw [he] at HS1
  have HB := a_0 hb1
  clear hS1 he
  go_wp2
  exact v_z
 ·have HR := a_0 (HX.out.trans (if_neg hb))
  rw [HR.out]
  clear HX HR
  have hcase : (s.e != 0) = true ∨ (s.e = 0 ∧ (tk0 != 1) = true) := by
   by_cases h : s.e = 0
   ·exact .inr ⟨h, by simpa using fun h2 => hb ⟨h, h2⟩⟩
   ·exact .inl (by simpa using h)
  clear hb
  rcases hcase with hb | ⟨he, hb⟩
  all_goals
   go_enter func118, ntmps118
   go_wp2_with fail
   refine HN.out.mono ?_; rintro e w1 ⟨rfl, hb1⟩; have hz1 := hb1.size; refine q_4 ?_; intro hS1 c0 c1 c2 hP
   try rw [he] at c2
   have HQ := a_0 hS1; have HB := a_0 hb1; clear hS1 hb1 HN
   go_wp2_with fail
   refine (e_4 _ P A ts c s (HQ.out.below zX) 3).mono ?_; rintro e w2 ⟨rfl, hq2⟩
   go_wp2
   exact w_l
theorem l_g (W : World) (P : Nat) (A : Option Addr) (ts : List Tok) (c : Nat) (s : QSt) (hS : QPt QR W P A ts c s) (hi : s.i < ts.length) (hl : ts.length ≤ 1000000) :
  Calls prog 270 #[.pointer (some ⟨P, 0, none⟩)] W fun e' w' => e' = .returned (.int .i64 (l_X ts s).1) ∧ QPost QR W P A ts c (l_X ts s).2 w' := by
 have HN := a_0 (g_9 W P A ts c s hS 0 hi hl)
 rw [Nat.add_zero] at HN
 have HS := a_0 hS
 refine w_h ?_; intro HX
 clear hS
 generalize l_X ts s = r at *
 generalize tk ts s.i = t at *
 obtain ⟨tk0, tk1, tk2, tk3⟩ := t
 by_cases hb : s.e = 0 ∧ tk0 = 2
 ·have HR := a_0 (HX.out.trans (if_pos hb))
  rw [HR.out]
  obtain ⟨he, rfl⟩ := hb
  clear HX HR
  go_enter func270, ntmps270
  go_wp2_with fail
  refine HN.out.mono ?_
  rintro e w1 ⟨rfl, hb1⟩
  have hz1 := hb1.size
  refine q_4 ?_; intro hS1 c0 c1 c2 hP
  have hf := hS1.free
  rw [he] at c2
  have HS1 := a_0 (hS1.setAt (s.i + 1))
  rw [he] at HS1
  have HB := a_0 hb1
  clear hS1 he
  go_wp2
  exact v_z
 ·have HR := a_0 (HX.out.trans (if_neg hb))
  rw [HR.out]
  clear HX HR
  have hcase : (s.e != 0) = true ∨ (s.e = 0 ∧ (tk0 != 2) = true) := by
   by_cases h : s.e = 0
   ·exact .inr ⟨h, by simpa using fun h2 => hb ⟨h, h2⟩⟩
   ·exact .inl (by simpa using h)
  clear hb
  rcases hcase with hb | ⟨he, hb⟩
  all_goals
   go_enter func270, ntmps270
   go_wp2_with fail
   refine HN.out.mono ?_; rintro e w1 ⟨rfl, hb1⟩; have hz1 := hb1.size; refine q_4 ?_; intro hS1 c0 c1 c2 hP
   try rw [he] at c2
   have HQ := a_0 hS1; have HB := a_0 hb1; clear hS1 hb1 HN
   go_wp2_with fail
   refine (e_4 _ P A ts c s (HQ.out.below zX) 3).mono ?_; rintro e w2 ⟨rfl, hq2⟩
   go_wp2
   exact w_l
end Go.Proofs.YtmbeeefkpgfgmaaGreatDoor
