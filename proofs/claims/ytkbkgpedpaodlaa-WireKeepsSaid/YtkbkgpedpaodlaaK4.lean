/- The base of this seat's walks, continued: rows that a call owns: make, append, copy, stores at an index. -/
import Derived.Test.YtkbkgpedpaodlaaK3
import Derived.Maps.AppendAt
import Derived.Deep.OwnRows
set_option linter.unusedVariables false
set_option linter.unusedSimpArgs false
namespace Go.Proofs.Ytkbkgpedpaodlaa.K
open Go.RowKit

theorem ownBlock_blockOf (v : Value) : ∀ b, b ∈ blockOf v ↔ v.ownBlock = some b := by
  intro b
  cases v <;> simp [blockOf, Value.ownBlock]
  rename_i a l c
  cases a <;> simp [blockOf]
  exact eq_comm

/-- A slice that is one's own: nil, or at the head of a row; its n elements, size cells each, are xs. -/
def rowR (v : Value) (e : TypeId) (size n : Nat) (xs : List Value) : Res where
  fp := blockOf v
  holds w := w.ownsRow 0 e size v n xs
  loc w w' h := by
    rintro ⟨h1, h2⟩
    refine ⟨h1, ?_⟩
    rcases h2 with h2 | ⟨g, cap, cur, rfl, hb, hg, r⟩
    · exact .inl h2
    · exact .inr ⟨g, cap, cur, rfl, hb, by rw [h g (by simp [blockOf])]; exact hg, r⟩
@[simp] theorem rowR_fp (v : Value) (e : TypeId) (size n : Nat) (xs : List Value) : (rowR v e size n xs).fp = blockOf v := rfl
theorem rowR_nil (w : World) (e : TypeId) (size : Nat) : (rowR (.slice none 0 0) e size 0 []).holds w := World.ownsRow_nil w 0 e size
theorem rowR_shape {w : World} {v : Value} {e : TypeId} {size n : Nat} {xs : List Value} (h : (rowR v e size n xs).holds w) : ∃ A cap, v = .slice A n cap ∧ n ≤ cap := by
  rcases h.2 with ⟨rfl, rfl⟩ | ⟨g, cap, cur, rfl, _, _, hn, _⟩
  · exact ⟨none, 0, rfl, Nat.le_refl _⟩
  · exact ⟨_, cap, rfl, hn⟩
theorem rowR_length {w : World} {v : Value} {e : TypeId} {size n : Nat} {xs : List Value} (h : (rowR v e size n xs).holds w) : xs.length = n * size := h.1
theorem rowR_sl {w : World} {v : Value} {e : TypeId} {size n : Nat} {xs : List Value} (h : (rowR v e size n xs).holds w) : Sl w v n xs := by
  have h' : w.ownsRow 0 e size v n xs := h
  rcases h'.2 with ⟨rfl, rfl⟩ | ⟨g, cap, cur, rfl, hb, hg, r⟩
  · have : xs = [] := List.eq_nil_of_length_eq_zero (by simpa using h'.1)
    subst this
    exact Sl.nil w
  · refine ⟨_, cap, rfl, r.1, fun _ => ⟨_, rfl, fun j hj => ?_⟩⟩
    have hc := h'.cells (g := g) rfl j xs[j] (by rw [List.getElem?_eq_getElem hj])
    rw [hc, List.getElem?_eq_getElem hj]
theorem Rds.row {L G : List Res} {v : Value} {e : TypeId} {size n : Nat} {xs : List Value} (h : rowR v e size n xs ∈ L ∨ rowR v e size n xs ∈ G) : Rds L G v n xs := ⟨_, h, fun _ h => rowR_sl h⟩
theorem Rds.rowL {L G : List Res} (j : Nat) {v : Value} {e : TypeId} {size n : Nat} {xs : List Value} (h : L[j]? = some (rowR v e size n xs)) : Rds L G v n xs := Rds.row (.inl (List.mem_of_getElem? h))
theorem Rds.rowG {L G : List Res} (j : Nat) {v : Value} {e : TypeId} {size n : Nat} {xs : List Value} (h : G[j]? = some (rowR v e size n xs)) : Rds L G v n xs := Rds.row (.inr (List.mem_of_getElem? h))

/-- A literal or made block is a row of its own. -/
theorem St.cellsRow {w0 : World} {F0 : List Nat} {w : World} {b n : Nat} {cs : List Value} {e : TypeId} {size : Nat} {L G : List Res} (h : St w0 F0 w (cellsR b cs e :: L) G) (hfr : ∃ c f, w.heap[b]? = some (.cells c f (0, 0))) (hl : cs.length = n * size) (hn : n ≤ maxLen) :
    St w0 F0 w (rowR (.slice (some ⟨b, 0, none⟩) n n) e size n cs :: L) G := by
  refine St.turn1 h (by simp [blockOf]) (by simp [blockOf]) ?_
  rintro ⟨fr, h1, h2⟩
  obtain ⟨c, f, h3⟩ := hfr
  rw [h1] at h3
  injection h3 with h3
  injection h3 with h4 h5 h6
  subst h6
  refine ⟨hl, .inr ⟨b, n, cs.toArray, rfl, Nat.zero_le _, h1, Nat.le_refl _, hn, by simpa using hl, ?_⟩⟩
  rw [← hl]
  simp

section
variable {P : Program} {ops : Array Oper} {Q : Exit → Act → World → Prop} {rest : List Oper} {K : Act → World → Prop} {o : Oper} {a : Act} {w0 w : World} {F0 : List Nat} {L G : List Res}

/-- A literal as a row of its own. -/
theorem r_litRow (hst : St w0 F0 w L G) (hw : Region.wanted o (yielded ops a.tmps) = true) {t e : TypeId} (ho : o.op = .buildSlice t 0 #[])
    (ht : P.underlying t = some (.slice e)) {size : Nat} (hs : ∀ w, (sizeOf e).run P w = .ok size w)
    (k : ∀ v w', St w0 F0 w' (rowR v e size 0 [] :: L) G → (∃ b, v = .slice (some ⟨b, 0, none⟩) 0 0) → K (a.put o.dst v) w') : opK P ops Q o K a w := by
  refine wpl hw (v := .slice (some ⟨w.heap.size, 0, none⟩) 0 0) (w' := w.alloc (.cells #[] e)) ?_ (k _ _ ?_ ⟨_, rfl⟩)
  · simp [execOp, ho, Instr.buildSlice, run_underlying ht, hs, newRow, Instr.fill, Array.range_zero']
  · refine hst.alloc _ _ rfl ?_
    exact ⟨by simp, .inr ⟨w.heap.size, 0, #[], rfl, Nat.zero_le _, heap_alloc_new w _, Nat.le_refl _, Nat.zero_le _, by simp, by simp⟩⟩

/-- make([]T, n), T of one cell. -/
theorem r_make (hst : St w0 F0 w L G) (hw : Region.wanted o (yielded ops a.tmps) = true) {t e : TypeId} {x y : Operand} (ho : o.op = .makeSlice t x y)
    (ht : P.underlying t = some (.slice e)) {z : Value} {bytes : Nat} (hinfo : (P.info? e).map (fun i => (i.zero, i.size, i.bytes)) = some (some z, 1, bytes)) (hz1 : z.cells = #[z]) {n : Nat}
    (hx : a.eval x = .int .i64 (n : Int)) (hy : a.eval y = .int .i64 (n : Int)) (hb : bytes * n ≤ 281474976710656) (h63 : n ≤ 9223372036854775807)
    (k : ∀ b w', St w0 F0 w' (cellsR b (List.replicate n z) e :: L) G → K (a.put o.dst (.slice (some ⟨b, 0, none⟩) n n)) w') : opK P ops Q o K a w := by
  have hr := run_make_row' (P := P) t e z bytes ht hinfo hz1 .i64 .i64 n hb h63 w
  refine wpl hw (v := .slice (some ⟨w.heap.size, 0, none⟩) n n) (w' := w.alloc (.cells (madeCells #[z] n) e)) ?_ (k _ _ ?_)
  · simp [execOp, ho, hx, hy, hr]
  · refine hst.alloc _ _ rfl ?_
    have h1 := cellsR_new w (List.replicate n z) e
    have h2 : (List.replicate n z).toArray = madeCells #[z] n := by
      apply Array.ext'
      rw [toList_madeCells_one]
    rwa [h2] at h1

/-- A store of one cell, at whatever place. -/
theorem r_storeAt (hst : St w0 F0 w L G) (j : Nat) (hw : Region.wanted o (yielded ops a.tmps) = true) {t : TypeId} {x y : Operand} (ho : o.op = .store t x y) {b i : Nat} (hx : a.eval x = .pointer (some ⟨b, i, none⟩))
    {cs : List Value} {e : TypeId} (hL : L[j]? = some (cellsR b cs e)) {v : Value} (hy : a.eval y = v) (hsz : ∀ w, (sizeOf t).run P w = .ok 1 w) (h1 : v.oneCell' = true) (hi : i < cs.length)
    (k : ∀ w', St w0 F0 w' (L.set j (cellsR b (cs.set i v) e)) G → K (a.put o.dst undef) w') : opK P ops Q o K a w := by
  have hc := cells_of_one h1
  refine r_store hst j hw ho hx hL hy (by rw [hc]; exact hsz) (by rw [hc]; simp; omega) (by rw [hc]; simpa using h1) ?_
  intro w' h
  rw [hc] at h
  have e1 : (#[v] : Array Value).toList = [v] := rfl
  rw [e1, splice_one cs i v hi] at h
  exact k w' h

theorem run_firstCells_sl {size n : Nat} {v : Value} {xs : List Value} (h : Sl w v n xs) (hl : xs.length = n * size) : (Builtin.firstCells size n v).run P w = .ok xs.toArray w := by
  obtain ⟨A, cap, rfl, hcap, hA⟩ := h
  by_cases hx : xs = []
  · subst hx
    cases A with
    | none => simp [Builtin.firstCells]
    | some ad =>
      have : n * size = 0 := by simpa using hl.symm
      simp [Builtin.firstCells, this, loadCells, loadCellsFrom]
  · obtain ⟨ad, rfl, hc⟩ := hA hx
    exact run_firstCells_some w size n ad n cap xs hl (fun j u hu => by
      have hj : j < xs.length := by
        rcases Nat.lt_or_ge j xs.length with h | h
        · exact h
        · rw [List.getElem?_eq_none h] at hu; cases hu
      rw [hc j hj, hu])

/-- append(v, x...): v one's own. -/
theorem r_append (hst : St w0 F0 w L G) (j : Nat) (hw : Region.wanted o (yielded ops a.tmps) = true) {t e : TypeId} {s x : Operand} (ho : o.op = .call { callee := .builtin .append, args := #[s, x], argTypes := #[t, t] })
    (ht : P.underlying t = some (.slice e)) {z : Value} {size bytes : Nat} (hinfo : (P.info? e).map (fun i => (i.zero, i.size, i.bytes)) = some (some z, size, bytes)) (hzs : z.cells.size = size) (hsz : 0 < size)
    {v : Value} {n : Nat} {xs : List Value} (hs : a.eval s = v) (hL : L[j]? = some (rowR v e size n xs)) {u : Value} {m : Nat} {news : List Value} (hx : a.eval x = u) (hr : Rds L G u m news) (hl : news.length = m * size) (h1 : ∀ u ∈ news, u.oneCell' = true)
    (h63 : n + m ≤ maxLen) (hbytes : (n + m) * bytes ≤ 140737488355328)
    (k : ∀ v' w', St w0 F0 w' (L.set j (rowR v' e size (n + m) (xs ++ news))) G → (m = 0 → v' = v) → K (a.put o.dst v') w') : opK P ops Q o K a w := by
  obtain ⟨i0, hi, hzz⟩ := Option.map_eq_some_iff.1 hinfo
  simp only [Prod.mk.injEq] at hzz
  obtain ⟨hz0, hz1, hz2⟩ := hzz
  have hown : w.ownsRow 0 e size v n xs := hst.res _ (List.mem_of_getElem? hL)
  have hp := hst.perm (perm_at hL)
  obtain ⟨A, cap, rfl, hcap, hA⟩ := hr.sl hst
  by_cases hm : m = 0
  · subst hm
    have hn0 : news = [] := List.eq_nil_of_length_eq_zero (by simpa using hl)
    subst hn0
    have hrun : (Builtin.append_ #[t, t] o.type #[v, .slice A 0 cap]).run P w = .ok v w := by
      have hf := run_firstCells_sl (P := P) (size := size) (n := 0) (hr.sl hst) (by simp)
      obtain ⟨A2, cap2, rfl, hcap⟩ := rowR_shape (w := w) (v := v) (e := e) (size := size) (n := n) (xs := xs) hown
      cases A2 with
      | none => simp [Builtin.append_, run_underlying ht, sizeOf, typeInfo, hi, hz1, Builtin.lenOf, hcap, hf, storeCells]
      | some ad => simp [Builtin.append_, run_underlying ht, sizeOf, typeInfo, hi, hz1, Builtin.lenOf, hcap, hf, storeCells]
    refine wpl hw (v := v) (w' := w) ?_ (k _ _ ?_ (fun _ => rfl))
    · simp [execOp, ho, resolve, invoke, builtin, hs, hx, hrun]
    · have := (St.turn1 (s := rowR v e size (n + 0) (xs ++ [])) hp (by simp) (by have := hp.nod; simp [List.nodup_append] at this; exact this.1) (by simp [rowR])).perm (perm_set hL)
      exact this
  · have hne : news ≠ [] := by intro h; rw [h] at hl; have : 0 < m * size := Nat.mul_pos (by omega) hsz; simp at hl; omega
    obtain ⟨ad, rfl, hc⟩ := hA hne
    obtain ⟨v', w', hrun, hown', hg, _, hat⟩ := run_append_own_at (P := P) w 0 t o.type e i0 z size bytes ht hi hz0 hz1 hz2 hzs hsz v n xs hown ad m cap news hl (fun j u hu => by
      have hj : j < news.length := by
        rcases Nat.lt_or_ge j news.length with h | h
        · exact h
        · rw [List.getElem?_eq_none h] at hu; cases hu
      rw [hc j hj, hu]) h1 h63 hbytes (Nat.zero_le _)
    refine wpl hw (v := v') (w' := w') ?_ (k _ _ ?_ (fun h => absurd h hm))
    · simp [execOp, ho, resolve, invoke, builtin, hs, hx, hrun]
    · refine (St.step (L1 := [rowR v e size n xs]) (L2 := [rowR v' e size (n + m) (xs ++ news)]) hp hg.os hg.tape hg.output hg.size ?_ ?_ ?_ (by intro r hr; simp at hr; subst hr; exact hown')).perm (perm_set hL)
      · intro b hb hn
        refine hg.block b hb (fun h => hn ?_)
        simp [(ownBlock_blockOf v b).2 h.symm]
      · intro b hb
        simp at hb
        have hb' := (ownBlock_blockOf v' b).1 hb
        rcases hat with hat | hat
        · left
          simp [(ownBlock_blockOf v b).2 (by rw [← hat]; exact hb')]
        · right
          rw [hat] at hb'
          injection hb' with hb'
          subst hb'
          refine ⟨Nat.le_refl _, ?_⟩
          have hl := World.ownsRow.lt hown' _ hat
          exact hl.2
      · rcases rowR_shape (w := w') (v := v') (e := e) (size := size) hown' with ⟨A, c, rfl, _⟩
        cases A <;> simp [blockOf]

/-- copy(dst, src): dst lies in a block that is one's own. -/
theorem r_copy (hst : St w0 F0 w L G) (j : Nat) (hw : Region.wanted o (yielded ops a.tmps) = true) {t e : TypeId} {s x : Operand} (ho : o.op = .call { callee := .builtin .copy, args := #[s, x], argTypes := #[t, t] })
    (ht : P.underlying t = some (.slice e)) {size : Nat} (hs1 : ∀ w, (sizeOf e).run P w = .ok size w) {b off n c : Nat} (hs : a.eval s = .slice (some ⟨b, off, none⟩) n c) {cs : List Value} {e' : TypeId} (hL : L[j]? = some (cellsR b cs e'))
    {u : Value} {m : Nat} {xs : List Value} (hx : a.eval x = u) (hr : Rds L G u m xs) (hl : xs.length = m * size) (h1 : ∀ u ∈ xs, u.oneCell' = true) (hmn : m ≤ n) (hfit : off + xs.length ≤ cs.length)
    (k : ∀ w', St w0 F0 w' (L.set j (cellsR b (splice cs off xs) e')) G → K (a.put o.dst (.int .i64 (m : Int))) w') : opK P ops Q o K a w := by
  have hsl := hr.sl hst
  have hf := run_firstCells_sl (P := P) (size := size) (n := m) hsl hl
  obtain ⟨A, cap, rfl, hcap, hA⟩ := hsl
  have hh : (cellsR b cs e').holds w := hst.res _ (List.mem_of_getElem? hL)
  have hrun := run_storeCells_St (P := P) hh off xs hfit h1
  have hmin : Nat.min m n = m := Nat.min_eq_left hmn
  refine wpl hw (v := .int .i64 (m : Int)) (w' := w.setRow b (splice cs off xs).toArray) ?_ (k _ (hst.splice_at hL off xs hfit))
  simp [execOp, ho, resolve, invoke, builtin, hs, hx, Builtin.copy_, run_underlying ht, Builtin.lenOf, hmin, hs1, hf, hrun, goInt]

/-- The place of element ix of a row of one's own. -/
theorem row_at {e : TypeId} {size n : Nat} {v : Value} {xs : List Value} (h : (rowR v e size n xs).holds w) (hn : 0 < n) : ∃ b cap, v = .slice (some ⟨b, 0, none⟩) n cap ∧ n ≤ cap := by
  rcases h.2 with ⟨rfl, h0⟩ | ⟨g, cap, cur, rfl, _, _, hc, _⟩
  · omega
  · exact ⟨g, cap, rfl, hc⟩
theorem row_cell {b cap n : Nat} {e : TypeId} {size : Nat} {xs : List Value} (h : (rowR (.slice (some ⟨b, 0, none⟩) n cap) e size n xs).holds w) (i : Nat) (hi : i < n * size) : w.cell? ⟨b, i, none⟩ = xs[i]? :=
  World.ownsRow.cellAt (w := w) h i hi
/-- One cell of a row of one's own is read. -/
theorem r_loadRow (hst : St w0 F0 w L G) (j : Nat) (hw : Region.wanted o (yielded ops a.tmps) = true) {t : TypeId} {x : Operand} (ho : o.op = .load t x) {b i : Nat} (hx : a.eval x = .pointer (some ⟨b, i, none⟩))
    {n cap size : Nat} {xs : List Value} {e : TypeId} (hL : L[j]? = some (rowR (.slice (some ⟨b, 0, none⟩) n cap) e size n xs)) (hi : i < n * size) (hag : ∀ w, (isAgg t).run P w = .ok false w) {v : Value} (hc : xs[i]? = some v)
    (k : K (a.put o.dst v) w) : opK P ops Q o K a w := by
  refine r_loadAt hw ho hx (run_load_cell hag ?_) k
  rw [row_cell (hst.res _ (List.mem_of_getElem? hL)) i hi, hc]
/-- One cell of a row of one's own is written. -/
theorem r_storeRow (hst : St w0 F0 w L G) (j : Nat) (hw : Region.wanted o (yielded ops a.tmps) = true) {t : TypeId} {x y : Operand} (ho : o.op = .store t x y) {b i : Nat} (hx : a.eval x = .pointer (some ⟨b, i, none⟩))
    {n cap size : Nat} {xs : List Value} {e : TypeId} (hL : L[j]? = some (rowR (.slice (some ⟨b, 0, none⟩) n cap) e size n xs)) (hi : i < n * size) {v : Value} (hy : a.eval y = v) (hsz : ∀ w, (sizeOf t).run P w = .ok 1 w) (h1 : v.oneCell' = true)
    (k : ∀ w', St w0 F0 w' (L.set j (rowR (.slice (some ⟨b, 0, none⟩) n cap) e size n (xs.set i v))) G → K (a.put o.dst undef) w') : opK P ops Q o K a w := by
  have hh : w.ownsRow 0 e size (.slice (some ⟨b, 0, none⟩) n cap) n xs := hst.res _ (List.mem_of_getElem? hL)
  have hl : xs.length = n * size := hh.1
  have hc : w.cell? ⟨b, i, none⟩ = some xs[i] := by rw [World.ownsRow.cellAt hh i hi, List.getElem?_eq_getElem (by omega)]
  have hf : w.frozen? ⟨b, i, none⟩ = false := World.ownsRow.frozenAt hh i
  have hs := World.ownsRow.stored hh i v
  have hrun : (storeVar t ⟨b, i, none⟩ v).run P w = .ok () (w.setCell ⟨b, i, none⟩ v) := by
    have hc1 := cells_of_one h1
    have e0 : (⟨b, i, none⟩ : Addr).add 0 = ⟨b, i, none⟩ := by simp [Addr.add]
    simp [storeVar, hsz, hc1, storeCells, e0, run_store P w _ v _ h1, hc, hf]
  refine wpl_skip hw (w' := w.setCell ⟨b, i, none⟩ v) ?_ (k _ ?_)
  · simp [execOp, ho, Instr.storeAt, Instr.sureAddr, hx, hy, hrun]
  · refine (St.step (w' := w.setCell ⟨b, i, none⟩ v) (L1 := [rowR (.slice (some ⟨b, 0, none⟩) n cap) e size n xs]) (L2 := [rowR (.slice (some ⟨b, 0, none⟩) n cap) e size n (xs.set i v)]) (hst.perm (perm_at hL)) rfl rfl rfl (by simp [World.setCell]) ?_ (fun b' hb' => .inl (by simpa using hb')) (by simp [blockOf]) ?_).perm (perm_set hL)
    · intro k' hk hn
      exact Below.heap_setCell _ _ _ _ (by simpa [blockOf] using hn)
    · intro r hr
      simp at hr
      subst hr
      exact hs.1
end
end Go.Proofs.Ytkbkgpedpaodlaa.K
