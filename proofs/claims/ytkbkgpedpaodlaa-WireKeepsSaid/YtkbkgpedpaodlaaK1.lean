/- The base of this seat's walks, continued: rules for the operations that touch memory. -/
import Derived.Test.YtkbkgpedpaodlaaK0
set_option linter.unusedVariables false
set_option linter.unusedSimpArgs false
namespace Go.Proofs.Ytkbkgpedpaodlaa.K
open Go.RowKit

section
variable {P : Program} {ops : Array Oper} {Q : Exit → Act → World → Prop} {rest : List Oper} {K : Act → World → Prop} {o : Oper} {a : Act} {w0 w : World} {F0 : List Nat} {L G : List Res}

/-- One operation, then K. -/
abbrev opK (P : Program) (ops : Array Oper) (Q : Exit → Act → World → Prop) (o : Oper) (K : Act → World → Prop) (a : Act) (w : World) : Prop :=
  if Region.wanted o (yielded ops a.tmps) = true then Oper.wp P o a w K Q else K (a.put o.dst undef) w
theorem wpList_opK (h : opK P ops Q o (wpList P ops Q rest) a w) : wpList P ops Q (o :: rest) a w := by
  unfold wpList
  unfold opK at h
  split
  · rename_i hw; rw [if_pos hw] at h; exact .inl h
  · rename_i hw; rw [if_neg hw] at h; exact h
theorem wpl (hw : Region.wanted o (yielded ops a.tmps) = true) {v : Value} {w' : World} (hr : (execOp a.eval o).run P w = .ok (.value v) w')
    (k : K (a.put o.dst v) w') : opK P ops Q o K a w := by
  unfold opK
  rw [if_pos hw]
  unfold Oper.wp; rw [hr]; exact k
theorem wpl_skip (hw : Region.wanted o (yielded ops a.tmps) = true) {w' : World} (hr : (execOp a.eval o).run P w = .ok .skip w')
    (k : K (a.put o.dst undef) w') : opK P ops Q o K a w := by
  unfold opK
  rw [if_pos hw]
  unfold Oper.wp; rw [hr]; exact k
theorem wpl_call (hw : Region.wanted o (yielded ops a.tmps) = true) {w' : World} {f : FuncId} {args : Array Value} (hr : (execOp a.eval o).run P w = .ok (.enter f args) w')
    {R : Ending → World → Prop} (hc : Calls P f args w' R) (k : ∀ e w'', R e w'' → ∃ v, e = .returned v ∧ K (a.put o.dst v) w'') : opK P ops Q o K a w := by
  unfold opK
  rw [if_pos hw]
  unfold Oper.wp; rw [hr]
  refine hc.mono fun e w'' h => ?_
  obtain ⟨v, rfl, h2⟩ := k e w'' h
  exact h2

/-- A call by its contract; where the arguments part this fails at once. -/
theorem use_call {f : FuncId} {args args' : Array Value} {w : World} {R R' : Ending → World → Prop} (hc : Calls P f args' w R) (ha : args = args') (k : ∀ e w', R e w' → R' e w') : Calls P f args w R' := by
  subst ha
  exact hc.mono k

theorem Rds.ofCells (j : Nat) {b : Nat} {cs : List Value} {e : TypeId} (h : L[j]? = some (cellsR b cs e)) (n cap : Nat) (hn : n ≤ cap := by omega) : Rds L G (.slice (some ⟨b, 0, none⟩) n cap) n cs := Rds.cells (.inl (List.mem_of_getElem? h)) n cap hn
theorem Rds.ofCellsG (j : Nat) {b : Nat} {cs : List Value} {e : TypeId} (h : G[j]? = some (cellsR b cs e)) (n cap : Nat) (hn : n ≤ cap := by omega) : Rds L G (.slice (some ⟨b, 0, none⟩) n cap) n cs := Rds.cells (.inr (List.mem_of_getElem? h)) n cap hn
theorem Rds.slL (j : Nat) {v : Value} {n : Nat} {xs : List Value} (h : L[j]? = some (slR v n xs)) : Rds L G v n xs := Rds.ofL (List.mem_of_getElem? h)
theorem Rds.slG (j : Nat) {v : Value} {n : Nat} {xs : List Value} (h : G[j]? = some (slR v n xs)) : Rds L G v n xs := Rds.ofG (List.mem_of_getElem? h)

/-! ### New blocks -/
theorem r_box (hst : St w0 F0 w L G) (hw : Region.wanted o (yielded ops a.tmps) = true) {e : TypeId} {x : Operand} (ho : o.op = .box e x)
    (k : ∀ b w', St w0 F0 w' (cellsR b (a.eval x).cells.toList e :: L) G → K (a.put o.dst (.pointer (some ⟨b, 0, none⟩))) w') : opK P ops Q o K a w := by
  refine wpl hw (v := .pointer (some ⟨w.heap.size, 0, none⟩)) (w' := w.alloc (.cells (a.eval x).cells e)) ?_ (k _ _ ?_)
  · simp [execOp, ho, Instr.box, newVar, newRow]
  · refine hst.alloc _ _ rfl ?_
    have := cellsR_new w (a.eval x).cells.toList e
    simpa using this
theorem r_alloc (hst : St w0 F0 w L G) (hw : Region.wanted o (yielded ops a.tmps) = true) {e : TypeId} (ho : o.op = .alloc e) {z : Value} (hz : ∀ w, (zeroValue e).run P w = .ok z w)
    (k : ∀ b w', St w0 F0 w' (cellsR b z.cells.toList e :: L) G → K (a.put o.dst (.pointer (some ⟨b, 0, none⟩))) w') : opK P ops Q o K a w := by
  refine wpl hw (v := .pointer (some ⟨w.heap.size, 0, none⟩)) (w' := w.alloc (.cells z.cells e)) ?_ (k _ _ ?_)
  · simp [execOp, ho, Instr.alloc, newVar, newRow, hz]
  · refine hst.alloc _ _ rfl ?_
    have := cellsR_new w z.cells.toList e
    simpa using this

/-- What a run without memory makes of a slice literal: its cells. -/
def litCells (size len : Nat) (zero : Array Value) (parts : List (Nat × Value)) : Option (Array Value) :=
  Instr.fill (fun i => some (i * size, size)) ((Array.range (len * size)).map (zero[· % zero.size]!)) parts

theorem r_buildSlice (hst : St w0 F0 w L G) (hw : Region.wanted o (yielded ops a.tmps) = true) {t e : TypeId} {len size : Nat} {parts : Array (Nat × Operand)} (ho : o.op = .buildSlice t len parts)
    (ht : P.underlying t = some (.slice e)) (hs : ∀ w, (sizeOf e).run P w = .ok size w) {z : Value} (hz : ∀ w, (zeroValue e).run P w = .ok z w) (hl : len * size ≤ 16777216)
    {cs : List Value} (hc : litCells size len (if len * size = 0 then #[] else z.cells) (parts.toList.map fun x => (x.1, a.eval x.2)) = some cs.toArray)
    (k : ∀ b w', St w0 F0 w' (cellsR b cs e :: L) G → K (a.put o.dst (.slice (some ⟨b, 0, none⟩) len len)) w') : opK P ops Q o K a w := by
  refine wpl hw (v := .slice (some ⟨w.heap.size, 0, none⟩) len len) (w' := w.alloc (.cells cs.toArray e)) ?_ (k _ _ ?_)
  · unfold litCells at hc
    have hl' : ¬ 16777216 < len * size := by omega
    by_cases h0 : len * size = 0
    · simp [h0] at hc
      simp [execOp, ho, Instr.buildSlice, run_underlying ht, hs, h0, hc, newRow]
    · simp only [h0, if_false] at hc
      simp [execOp, ho, Instr.buildSlice, run_underlying ht, hs, h0, hl', hz, hc, newRow]
  · exact hst.alloc _ _ rfl (cellsR_new w cs e)

theorem foldl_set (vs : List Value) : ∀ (ws : List Value) (i : Nat), ws.length = vs.length → i ≤ vs.length → ((vs.drop i).zipIdx i).foldl (fun (cs : Array Value) (p : Value × Nat) => cs.setIfInBounds (0 + p.2) p.1) (vs.take i ++ ws.drop i).toArray = vs.toArray := by
  intro ws i hl
  generalize hd : vs.length - i = d
  induction d generalizing i with
  | zero =>
    intro hi
    have : i = vs.length := by omega
    subst this
    rw [List.drop_of_length_le (Nat.le_refl _), List.drop_of_length_le (by omega), List.take_length]
    simp
  | succ d ih =>
    intro hi
    have hlt : i < vs.length := by omega
    have hlt' : i < ws.length := by omega
    rw [List.drop_eq_getElem_cons hlt, List.zipIdx_cons, List.foldl_cons]
    have h2 : (vs.take i ++ ws.drop i).toArray.setIfInBounds (0 + i) vs[i] = (vs.take (i + 1) ++ ws.drop (i + 1)).toArray := by
      apply Array.ext'
      simp only [Array.toList_setIfInBounds, List.toList_toArray, Nat.zero_add]
      rw [List.set_append_right _ _ (by simp; omega)]
      rw [List.drop_eq_getElem_cons hlt', show i - (List.take i vs).length = 0 by simp; omega, List.set_cons_zero, List.take_succ_eq_append_getElem hlt, List.append_assoc]
      rfl
    rw [h2]
    exact ih (i + 1) (by omega) (by omega)
theorem litCells_one (z : Array Value) (v : Value) (zero : Array Value) : litCells v.cells.size 1 zero [(0, v)] = some v.cells := by
  unfold litCells
  simp only [Instr.fill, Nat.one_mul, Nat.zero_mul, Nat.zero_add]
  rw [if_neg (by simp)]
  congr 1
  have h := foldl_set v.cells.toList ((List.range v.cells.size).map (zero[· % zero.size]!)) 0 (by simp) (by simp)
  simp only [List.drop_zero, List.take_zero, List.nil_append] at h
  rw [← Array.foldl_toList, Array.toList_zipIdx]
  have hr : (List.map (fun x => zero[x % zero.size]!) (List.range v.cells.size)).toArray = Array.map (fun x => zero[x % zero.size]!) (Array.range v.cells.size) := by
    apply Array.ext'
    simp
  rw [hr] at h
  simpa using h
/-- A slice literal of one element: what a variadic call of one argument is handed. -/
theorem r_lit1 (hst : St w0 F0 w L G) (hw : Region.wanted o (yielded ops a.tmps) = true) {t e : TypeId} {x : Operand} (ho : o.op = .buildSlice t 1 #[(0, x)])
    (ht : P.underlying t = some (.slice e)) {v : Value} (hx : a.eval x = v) {n : Nat} (hs : ∀ w, (sizeOf e).run P w = .ok n w) (hv : v.cells.size = n) {z : Value} (hz : ∀ w, (zeroValue e).run P w = .ok z w) (hl : n ≤ 16777216)
    (k : ∀ b w', St w0 F0 w' (cellsR b v.cells.toList e :: L) G → K (a.put o.dst (.slice (some ⟨b, 0, none⟩) 1 1)) w') : opK P ops Q o K a w := by
  subst hv
  refine r_buildSlice hst hw ho ht hs hz (by omega) (cs := v.cells.toList) ?_ k
  simp only [List.map_cons, List.map_nil, hx, Array.toArray_toList]
  exact litCells_one #[] v _

def idx : Nat → List Value → List (Nat × Value)
  | _, [] => []
  | k, v :: vs => (k, v) :: idx (k + 1) vs
def ones : List Value → Bool
  | [] => true
  | v :: vs => v.oneCell' && ones vs
theorem cells_of_one {v : Value} (h : v.oneCell' = true) : v.cells = #[v] := by cases v <;> first | rfl | simp [Value.oneCell'] at h
theorem fill_idx : ∀ (vs pre suf : List Value), ones vs = true → suf.length = vs.length →
    Instr.fill (fun i => some (i * 1, 1)) (pre ++ suf).toArray (idx pre.length vs) = some (pre ++ vs).toArray
  | [], pre, suf, _, h => by
    have : suf = [] := List.eq_nil_of_length_eq_zero (by simpa using h)
    subst this
    simp [idx, Instr.fill]
  | v :: vs, pre, [], _, h => by simp at h
  | v :: vs, pre, s :: suf, h1, h => by
    have hv : v.oneCell' = true ∧ ones vs = true := by simpa [ones] using h1
    have hc := cells_of_one hv.1
    have ih := fill_idx vs (pre ++ [v]) suf hv.2 (by simpa using h)
    simp only [idx, Instr.fill, hc, Nat.mul_one]
    rw [if_neg (by simp)]
    have e : (Array.foldl (fun (cs : Array Value) (x : Value × Nat) => cs.setIfInBounds (pre.length + x.snd) x.fst) (pre ++ s :: suf).toArray #[v].zipIdx) = (pre ++ [v] ++ suf).toArray := by
      simp
    simp only [List.length_append, List.length_cons, List.length_nil, Nat.zero_add, Nat.mul_one] at ih
    rw [e, ih]
    simp
/-- A slice literal of elements of one cell each. -/
theorem r_lits (hst : St w0 F0 w L G) (hw : Region.wanted o (yielded ops a.tmps) = true) {t e : TypeId} {n : Nat} {parts : Array (Nat × Operand)} (ho : o.op = .buildSlice t n parts) {vs : List Value}
    (hp : parts.toList.map (fun x => (x.1, a.eval x.2)) = idx 0 vs) (h1 : ones vs = true) (hn : vs.length = n)
    (ht : P.underlying t = some (.slice e)) (hs : ∀ w, (sizeOf e).run P w = .ok 1 w) {z : Value} (hz : ∀ w, (zeroValue e).run P w = .ok z w) (hl : n ≤ 16777216)
    (k : ∀ b w', St w0 F0 w' (cellsR b vs e :: L) G → K (a.put o.dst (.slice (some ⟨b, 0, none⟩) n n)) w') : opK P ops Q o K a w := by
  refine r_buildSlice hst hw ho ht hs hz (by omega) (cs := vs) ?_ k
  rw [hp]
  unfold litCells
  generalize (if n * 1 = 0 then #[] else z.cells) = zz
  have h := fill_idx vs [] ((List.range (n * 1)).map (zz[· % zz.size]!)) h1 (by simp [hn])
  simp only [List.nil_append, List.length_nil] at h
  have hr : ((List.range (n * 1)).map (zz[· % zz.size]!)).toArray = (Array.range (n * 1)).map (zz[· % zz.size]!) := by
    apply Array.ext'
    simp
  rw [hr] at h
  exact h

/-! ### Loads from blocks that are owned or known -/
theorem idx_map : ∀ (l : List (Nat × Operand)) (f : Operand → Value) (k : Nat), (l.map (·.1) == (List.range' k l.length)) = true → l.map (fun x => (x.1, f x.2)) = idx k (l.map fun x => f x.2)
  | [], _, _, _ => rfl
  | (i, x) :: l, f, k, h => by
    simp [List.range'] at h
    have h2 := idx_map l f (k + 1) (by simpa using h.2)
    simp [idx, h.1, h2]
/-- A literal of one-cell elements; what they are is found. -/
theorem r_litsF (hst : St w0 F0 w L G) (hw : Region.wanted o (yielded ops a.tmps) = true) {t e : TypeId} {n : Nat} {parts : Array (Nat × Operand)} (ho : o.op = .buildSlice t n parts)
    (hi : (parts.toList.map (·.1) == List.range' 0 parts.toList.length) = true) (hn : parts.toList.length = n) (ht : P.underlying t = some (.slice e)) (hs : ∀ w, (sizeOf e).run P w = .ok 1 w) {z : Value} (hz : ∀ w, (zeroValue e).run P w = .ok z w) (hl : n ≤ 16777216)
    {vs : List Value} (hp : (parts.toList.map fun x => a.eval x.2) = vs) (h1 : ones vs = true)
    (k : ∀ b w', St w0 F0 w' (cellsR b vs e :: L) G → K (a.put o.dst (.slice (some ⟨b, 0, none⟩) n n)) w') : opK P ops Q o K a w :=
  r_lits hst hw ho (by rw [idx_map _ _ 0 hi, hp]) h1 (by rw [← hp, List.length_map]; exact hn) ht hs hz hl k

theorem run_load_cell {t : TypeId} {ad : Addr} {v : Value} (hag : ∀ w, (isAgg t).run P w = .ok false w) (hc : w.cell? ad = some v) : (loadVar t ad).run P w = .ok v w := by
  simp [loadVar, hag, hc]
theorem run_load_agg {t : TypeId} {ad : Addr} {n : Nat} {vs : List Value} (hag : ∀ w, (isAgg t).run P w = .ok true w) (hsz : ∀ w, (sizeOf t).run P w = .ok n w) (hn : vs.length = n)
    (hc : ∀ j v, vs[j]? = some v → w.cell? (ad.add j) = some v) : (loadVar t ad).run P w = .ok (.agg vs.toArray) w := by
  subst hn
  have := run_loadCells_list (P := P) w ad vs hc
  simp [loadVar, hag, hsz, this]

theorem r_loadAt (hw : Region.wanted o (yielded ops a.tmps) = true) {t : TypeId} {x : Operand} (ho : o.op = .load t x) {ad : Addr} (hx : a.eval x = .pointer (some ad)) {v : Value} (hr : (loadVar t ad).run P w = .ok v w)
    (k : K (a.put o.dst v) w) : opK P ops Q o K a w := by
  refine wpl hw (v := v) (w' := w) ?_ k
  simp [execOp, ho, Instr.loadAt, Instr.sureAddr, hx, hr]

/-- One cell of the block that stands at place j of what is owned. -/
theorem r_load (hst : St w0 F0 w L G) (j : Nat) (hw : Region.wanted o (yielded ops a.tmps) = true) {t : TypeId} {x : Operand} (ho : o.op = .load t x) {b i : Nat} (hx : a.eval x = .pointer (some ⟨b, i, none⟩))
    {cs : List Value} {e : TypeId} (hL : L[j]? = some (cellsR b cs e)) (hag : ∀ w, (isAgg t).run P w = .ok false w) {v : Value} (hc : cs[i]? = some v)
    (k : K (a.put o.dst v) w) : opK P ops Q o K a w := by
  refine r_loadAt hw ho hx (run_load_cell hag ?_) k
  rw [hst.cell (.inl (List.mem_of_getElem? hL)) i, hc]
theorem r_loadG (hst : St w0 F0 w L G) (j : Nat) (hw : Region.wanted o (yielded ops a.tmps) = true) {t : TypeId} {x : Operand} (ho : o.op = .load t x) {b i : Nat} (hx : a.eval x = .pointer (some ⟨b, i, none⟩))
    {cs : List Value} {e : TypeId} (hL : G[j]? = some (cellsR b cs e)) (hag : ∀ w, (isAgg t).run P w = .ok false w) {v : Value} (hc : cs[i]? = some v)
    (k : K (a.put o.dst v) w) : opK P ops Q o K a w := by
  refine r_loadAt hw ho hx (run_load_cell hag ?_) k
  rw [hst.cell (.inr (List.mem_of_getElem? hL)) i, hc]
theorem add_lit' (b i j : Nat) : (⟨b, i, none⟩ : Addr).add j = ⟨b, i + j, none⟩ := by unfold Addr.add; split <;> simp_all
/-- A struct of the block that stands at place j. -/
theorem r_loadA (hst : St w0 F0 w L G) (j : Nat) (hw : Region.wanted o (yielded ops a.tmps) = true) {t : TypeId} {x : Operand} (ho : o.op = .load t x) {b i : Nat} (hx : a.eval x = .pointer (some ⟨b, i, none⟩))
    {cs : List Value} {e : TypeId} (hL : L[j]? = some (cellsR b cs e)) (hag : ∀ w, (isAgg t).run P w = .ok true w) {n : Nat} (hsz : ∀ w, (sizeOf t).run P w = .ok n w) (hn : i + n ≤ cs.length)
    (k : K (a.put o.dst (.agg ((cs.drop i).take n).toArray)) w) : opK P ops Q o K a w := by
  refine r_loadAt hw ho hx (run_load_agg hag hsz (by simp; omega) ?_) k
  intro j' v hv
  rw [add_lit', hst.cell (.inl (List.mem_of_getElem? hL)) (i + j')]
  rw [List.getElem?_take] at hv
  split at hv
  · rw [List.getElem?_drop] at hv; exact hv
  · cases hv

/-! ### Stores -/
theorem run_storeCells_fr (g b0 : Nat) (t : TypeId) (fr : Nat × Nat) : ∀ (vs : List Value) (i : Nat) (cur : Array Value) (w : World), w.heap[g]? = some (.cells cur t fr) → (∀ j, j < cur.size → ¬ (fr.1 ≤ j ∧ j < fr.2)) → b0 + i + vs.length ≤ cur.size → (∀ v ∈ vs, v.oneCell' = true) →
    (storeCells ⟨g, b0, none⟩ vs i).run P w = .ok () (w.setRow g (cur.toList.take (b0 + i) ++ vs ++ cur.toList.drop (b0 + i + vs.length)).toArray)
  | [], i, cur, w, hg, _, _, _ => by
    simp only [storeCells, List.append_nil, List.length_nil, Nat.add_zero, List.take_append_drop, Array.toArray_toList]
    rw [setRow_self w g cur t fr hg]
    rfl
  | v :: rest, i, cur, w, hg, hfr, hl, h1 => by
    have hi : b0 + i < cur.size := by simp at hl; omega
    have hcell : w.cell? ⟨g, b0 + i, none⟩ = some cur[b0 + i] := by simp [World.cell?, hg, hi]
    have hfro : w.frozen? ⟨g, b0 + i, none⟩ = false := by
      have := hfr (b0 + i) hi
      simp only [World.frozen?, hg]
      simpa using this
    have hst : (store ((⟨g, b0, none⟩ : Addr).add i) v).run P w = .ok () (w.setRow g (cur.setIfInBounds (b0 + i) v)) := by
      rw [add_lit', run_store P w _ v _ (h1 v (by simp)), hcell]
      simp [hfro, setCell_eq_setRow w g (b0 + i) cur t fr v hg]
    have ih := run_storeCells_fr g b0 t fr rest (i + 1) (cur.setIfInBounds (b0 + i) v) (w.setRow g (cur.setIfInBounds (b0 + i) v)) (setRow_heap w g cur _ t _ hg) (by simpa using hfr) (by simp at hl ⊢; omega) (fun x hx => h1 x (by simp [hx]))
    simp only [storeCells, Sem.run_bind, hst, Result.andThen_ok, ih, setRow_setRow]
    congr 3
    have e := list_seg_step cur.toList (b0 + i) v rest (by simp at hl ⊢; omega)
    simpa [Array.toList_setIfInBounds, Nat.add_assoc] using e

/-- cs with vs laid over it from place i on. -/
def splice (cs : List Value) (i : Nat) (vs : List Value) : List Value := cs.take i ++ vs ++ cs.drop (i + vs.length)
theorem splice_length (cs : List Value) (i : Nat) (vs : List Value) (h : i + vs.length ≤ cs.length) : (splice cs i vs).length = cs.length := by simp [splice]; omega
theorem splice_one (cs : List Value) (i : Nat) (v : Value) (h : i < cs.length) : splice cs i [v] = cs.set i v := by
  unfold splice
  rw [List.set_eq_take_append_cons_drop, if_pos h]
  simp

theorem St.splice {b : Nat} {cs : List Value} {e : TypeId} (h : St w0 F0 w (cellsR b cs e :: L) G) (i : Nat) (vs : List Value) (hi : i + vs.length ≤ cs.length) :
    St w0 F0 (w.setRow b (Go.Proofs.Ytkbkgpedpaodlaa.K.splice cs i vs).toArray) (cellsR b (Go.Proofs.Ytkbkgpedpaodlaa.K.splice cs i vs) e :: L) G := by
  obtain ⟨fr, h1, h2⟩ := h.res (cellsR b cs e) (by simp)
  refine St.step (L1 := [cellsR b cs e]) (L2 := [cellsR b (Go.Proofs.Ytkbkgpedpaodlaa.K.splice cs i vs) e]) h rfl rfl rfl (by simp) ?_ (by simp) (by simp) ?_
  · intro k hk hn
    exact setRow_other _ _ _ _ (by simpa using hn)
  · intro r hr
    simp at hr
    subst hr
    exact ⟨fr, setRow_heap _ _ _ _ _ _ h1, by rw [splice_length _ _ _ hi]; exact h2⟩
theorem run_storeCells_St {b : Nat} {cs : List Value} {e : TypeId} (h : (cellsR b cs e).holds w) (i : Nat) (vs : List Value) (hi : i + vs.length ≤ cs.length) (h1 : ∀ v ∈ vs, v.oneCell' = true) :
    (storeCells ⟨b, i, none⟩ vs).run P w = .ok () (w.setRow b (splice cs i vs).toArray) := by
  obtain ⟨fr, h2, h3⟩ := h
  have := run_storeCells_fr (P := P) b i e fr vs 0 cs.toArray w h2 (by simp only [List.size_toArray]; omega) (by simpa using hi) h1
  simpa [splice] using this

/-- What stands at place j comes ahead, and goes back. -/
theorem perm_at {L : List Res} {j : Nat} {r : Res} (h : L[j]? = some r) : L.Perm (r :: L.eraseIdx j) := by
  have hj : j < L.length := by rcases Nat.lt_or_ge j L.length with h1 | h1; exact h1; rw [List.getElem?_eq_none h1] at h; cases h
  rw [List.getElem?_eq_getElem hj] at h
  injection h with h
  rw [List.eraseIdx_eq_take_drop_succ]
  have h2 : L = L.take j ++ L[j] :: L.drop (j + 1) := by rw [← List.drop_eq_getElem_cons hj, List.take_append_drop]
  rw [h] at h2
  exact (List.Perm.of_eq h2).trans List.perm_middle
theorem perm_set {L : List Res} {j : Nat} {r s : Res} (h : L[j]? = some r) : (s :: L.eraseIdx j).Perm (L.set j s) := by
  have hj : j < L.length := by rcases Nat.lt_or_ge j L.length with h1 | h1; exact h1; rw [List.getElem?_eq_none h1] at h; cases h
  have h2 : (L.set j s)[j]? = some s := by simp [hj]
  have := perm_at h2
  rw [List.eraseIdx_set_eq] at this
  exact this.symm

theorem St.splice_at {b : Nat} {cs : List Value} {e : TypeId} (h : St w0 F0 w L G) {j : Nat} (hL : L[j]? = some (cellsR b cs e)) (i : Nat) (vs : List Value) (hi : i + vs.length ≤ cs.length) :
    St w0 F0 (w.setRow b (Go.Proofs.Ytkbkgpedpaodlaa.K.splice cs i vs).toArray) (L.set j (cellsR b (Go.Proofs.Ytkbkgpedpaodlaa.K.splice cs i vs) e)) G :=
  ((h.perm (perm_at hL)).splice i vs hi).perm (perm_set hL)

theorem r_store (hst : St w0 F0 w L G) (j : Nat) (hw : Region.wanted o (yielded ops a.tmps) = true) {t : TypeId} {x y : Operand} (ho : o.op = .store t x y) {b i : Nat} (hx : a.eval x = .pointer (some ⟨b, i, none⟩))
    {cs : List Value} {e : TypeId} (hL : L[j]? = some (cellsR b cs e)) {v : Value} (hy : a.eval y = v) (hsz : ∀ w, (sizeOf t).run P w = .ok v.cells.size w) (hi : i + v.cells.size ≤ cs.length) (h1 : ∀ u ∈ v.cells.toList, u.oneCell' = true)
    (k : ∀ w', St w0 F0 w' (L.set j (cellsR b (splice cs i v.cells.toList) e)) G → K (a.put o.dst undef) w') : opK P ops Q o K a w := by
  have hh : (cellsR b cs e).holds w := hst.res _ (List.mem_of_getElem? hL)
  have hr := run_storeCells_St (P := P) hh i v.cells.toList (by simpa using hi) h1
  refine wpl_skip hw (w' := w.setRow b (splice cs i v.cells.toList).toArray) ?_ (k _ (hst.splice_at hL i _ (by simpa using hi)))
  simp [execOp, ho, Instr.storeAt, Instr.sureAddr, hx, hy, storeVar, hsz, hr]

/-! ### The bytes of a string constant -/
theorem r_convertBytes (hst : St w0 F0 w L G) (j : Nat) (hw : Region.wanted o (yielded ops a.tmps) = true) {t e : TypeId} {x : Operand} (ho : o.op = .convert t t x) (ht : P.underlying t = some (.slice e)) (he : P.underlying e = some (.int .u8))
    {b n c : Nat} (hx : a.eval x = .slice (some ⟨b, 0, none⟩) n c) {cs : List Value} {e' : TypeId} (hL : L[j]? = some (cellsR b cs e'))
    (k : ∀ w', St w0 F0 w' L G → K (a.put o.dst (.slice (some ⟨b, 0, none⟩) n c)) w') : opK P ops Q o K a w := by
  obtain ⟨fr, h1, h2⟩ : (cellsR b cs e').holds w := hst.res _ (List.mem_of_getElem? hL)
  have hsh : w.shape? b = some (e', cs.length) := by simp [World.shape?, h1]
  refine wpl hw (v := .slice (some ⟨b, 0, none⟩) n c) (w' := w.freeze ⟨b, cs.length, none⟩ 1) ?_ (k _ ?_)
  · simp [execOp, ho, hx, convert, run_underlying ht, run_underlying he, markStringish, hsh]
  · have hp := hst.perm (perm_at hL)
    refine (St.step (L1 := [cellsR b cs e']) (L2 := [cellsR b cs e']) hp ?_ ?_ ?_ ?_ ?_ (by simp) (by simp) ?_).perm (perm_at hL).symm
    · simp [World.freeze]
    · simp [World.freeze]
    · simp [World.freeze]
    · simp [World.freeze]
    · intro k' hk hn
      have : b ≠ k' := by simpa using fun h => hn (by simp [h])
      simp [World.freeze, Array.getElem?_modify, this]
    · intro r hr
      simp at hr
      subst hr
      refine ⟨if fr.1 == fr.2 then (cs.length, cs.length + 1) else (min fr.1 cs.length, max fr.2 (cs.length + 1)), ?_, ?_⟩
      · simp [World.freeze, Array.getElem?_modify, h1]
      · by_cases h3 : fr.1 = fr.2
        · simp [h3]
        · simp only [beq_iff_eq, h3, if_false]
          right
          show cs.length ≤ min fr.1 cs.length
          omega

/-! ### A slice that is read -/
/-- The address of element ix: behind it the cells of that element. -/
theorem r_indexAddr (hst : St w0 F0 w L G) (hw : Region.wanted o (yielded ops a.tmps) = true) {t e : TypeId} {x ix : Operand} (ho : o.op = .indexAddr t x ix) (ht : P.underlying t = some (.slice e)) {size : Nat} (hs : ∀ w, (sizeOf e).run P w = .ok size w)
    {v : Value} {n : Nat} {xs : List Value} (hv : Rds L G v n xs) (hx : a.eval x = v) {ki : IntKind} {i : Int} (hi : a.eval ix = .int ki i) (h0 : 0 ≤ i) (h1 : i < n) (hlen : xs.length = n * size) (hsz : 0 < size)
    (k : ∀ p : Addr, (∀ j, j < size → w.cell? (p.add j) = xs[i.toNat * size + j]?) → K (a.put o.dst (.pointer (some p))) w) : opK P ops Q o K a w := by
  obtain ⟨A, cap, rfl, hcap, hA⟩ := hv.sl hst
  have hlt : i.toNat < n := by omega
  have hm : (i.toNat + 1) * size ≤ n * size := Nat.mul_le_mul_right _ hlt
  rw [Nat.add_mul, Nat.one_mul] at hm
  obtain ⟨ad, rfl, hc⟩ := hA (by intro h; rw [h] at hlen; simp at hlen; omega)
  refine wpl hw (v := .pointer (some (ad.add (i.toNat * size)))) (w' := w) ?_ (k _ ?_)
  · simp [execOp, ho, Instr.indexAt, hx, hi, asIntOf, run_underlying ht, hs, h0, h1]
  · intro j hj
    have e : (ad.add (i.toNat * size)).add j = ad.add (i.toNat * size + j) := by
      unfold Addr.add
      by_cases q1 : i.toNat * size = 0 <;> by_cases q2 : j = 0 <;> simp [q1, q2, Nat.add_assoc]
    rw [e]
    exact hc _ (by omega)
end
end Go.Proofs.Ytkbkgpedpaodlaa.K
