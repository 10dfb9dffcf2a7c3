/- Rows of items in a ring, in plain Lean: their cells, and what waits in them. -/
import Derived.Test.YtcafmbbimoddjaaE1
set_option linter.unusedVariables false
set_option linter.unusedSimpArgs false
namespace Go.Proofs.Ytcafmbbimoddjaa.LN
open Go.RowKit Go.Proofs.Ytcafmbbimoddjaa.K

abbrev It := ByteArray × Int
abbrev e0 : It := (⟨#[]⟩, 0)
@[reducible] def itc (x : It) : List Value := [.string x.1, .int .i64 x.2]
def rgc (l : List It) : List Value := l.flatMap itc
structure Rw where
  ring : List It
  first : Nat
  count : Nat
def Rw.cells (r : Rw) : List Value := rgc r.ring ++ [.int .i64 (r.first : Int), .int .i64 (r.count : Int)]
structure Rw.Wf (r : Rw) : Prop where
  len : r.ring.length = 64
  f : r.first < 64
  c : r.count ≤ 64
theorem rgc_length (l : List It) : (rgc l).length = l.length * 2 := by
  induction l with
  | nil => rfl
  | cons x l ih => simp [rgc] at ih ⊢; omega
theorem rgc_cons (x : It) (l : List It) : rgc (x :: l) = .string x.1 :: .int .i64 x.2 :: rgc l := rfl
theorem rgc_two : ∀ (l : List It) (k : Nat), k < l.length → ((rgc l).drop (k * 2)).take 2 = itc (l.getD k e0)
  | [], k, h => by simp at h
  | x :: l, 0, h => rfl
  | x :: l, k + 1, h => by
    rw [rgc_cons, show (k + 1) * 2 = k * 2 + 1 + 1 by omega, List.drop_succ_cons, List.drop_succ_cons]
    simpa using rgc_two l k (by simpa using h)
theorem rgc_set : ∀ (l : List It) (k : Nat) (y : It), k < l.length → splice (rgc l) (k * 2) (itc y) = rgc (l.set k y)
  | [], k, y, h => by simp at h
  | x :: l, 0, y, h => by simp [splice, rgc, itc]
  | x :: l, k + 1, y, h => by
    have ih := rgc_set l k y (by simpa using h)
    unfold splice at ih ⊢
    rw [rgc_cons, List.set_cons_succ, rgc_cons, ← ih, show (k + 1) * 2 = k * 2 + 1 + 1 by omega]
    simp only [List.take_succ_cons, List.cons_append, itc, List.length_cons, List.length_nil]
    rw [show k * 2 + 1 + 1 + (0 + 1 + 1) = k * 2 + (0 + 1 + 1) + 1 + 1 by omega, List.drop_succ_cons, List.drop_succ_cons]
theorem cells_length {r : Rw} (h : r.Wf) : r.cells.length = 130 := by simp [Rw.cells, rgc_length, h.len]

section
variable {pre suf : List Value} {o : Nat} {r : Rw}
theorem at_mid (ho : pre.length = o) (h : r.Wf) (i : Nat) (hi : i < 130) : (pre ++ r.cells ++ suf)[o + i]? = r.cells[i]? := by
  subst ho
  rw [List.append_assoc, List.getElem?_append_right (by omega), Nat.add_sub_cancel_left, List.getElem?_append_left (by rw [cells_length h]; exact hi)]
theorem at_first (ho : pre.length = o) (h : r.Wf) : (pre ++ r.cells ++ suf)[o + 128]? = some (.int .i64 (r.first : Int)) := by
  rw [at_mid ho h 128 (by omega), Rw.cells, List.getElem?_append_right (by rw [rgc_length, h.len]; omega), rgc_length, h.len]; rfl
theorem at_count (ho : pre.length = o) (h : r.Wf) : (pre ++ r.cells ++ suf)[o + 129]? = some (.int .i64 (r.count : Int)) := by
  rw [at_mid ho h 129 (by omega), Rw.cells, List.getElem?_append_right (by rw [rgc_length, h.len]; omega), rgc_length, h.len]; rfl
theorem at_ring (ho : pre.length = o) (h : r.Wf) {k : Nat} (hk : k < 64) : ((pre ++ r.cells ++ suf).drop (o + k * 2)).take 2 = itc (r.ring.getD k e0) := by
  subst ho
  rw [← rgc_two r.ring k (by rw [h.len]; exact hk), List.append_assoc, ← List.drop_drop, List.drop_left]
  have hl := rgc_length r.ring
  rw [h.len] at hl
  unfold Rw.cells
  rw [List.append_assoc, List.drop_append_of_le_length (by omega), List.take_append_of_le_length (by rw [List.length_drop]; omega)]
theorem set_mid (ho : pre.length = o) (i : Nat) (hi : i < r.cells.length) (v : Value) : (pre ++ r.cells ++ suf).set (o + i) v = pre ++ r.cells.set i v ++ suf := by
  subst ho
  rw [List.append_assoc, List.set_append_right _ _ (by omega), Nat.add_sub_cancel_left, List.set_append_left _ _ (by omega), List.append_assoc]
theorem set_first (ho : pre.length = o) (h : r.Wf) (f : Nat) : (pre ++ r.cells ++ suf).set (o + 128) (.int .i64 (f : Int)) = pre ++ ({ r with first := f } : Rw).cells ++ suf := by
  have hl := rgc_length r.ring
  rw [h.len] at hl
  rw [set_mid ho 128 (by rw [cells_length h]; omega)]
  unfold Rw.cells
  rw [List.set_append_right _ _ (by omega), hl]
  rfl
theorem set_count (ho : pre.length = o) (h : r.Wf) (c : Nat) : (pre ++ r.cells ++ suf).set (o + 129) (.int .i64 (c : Int)) = pre ++ ({ r with count := c } : Rw).cells ++ suf := by
  have hl := rgc_length r.ring
  rw [h.len] at hl
  rw [set_mid ho 129 (by rw [cells_length h]; omega)]
  unfold Rw.cells
  rw [List.set_append_right _ _ (by omega), hl]
  rfl
theorem set_ring (ho : pre.length = o) (h : r.Wf) {k : Nat} (hk : k < 64) (y : It) : splice (pre ++ r.cells ++ suf) (o + k * 2) (itc y) = pre ++ ({ r with ring := r.ring.set k y } : Rw).cells ++ suf := by
  subst ho
  have hl := rgc_length r.ring
  rw [h.len] at hl
  unfold Rw.cells
  rw [← rgc_set r.ring k y (by rw [h.len]; exact hk)]
  unfold splice
  have e2 : (itc y).length = 2 := rfl
  rw [e2]
  have t1 : (pre ++ (rgc r.ring ++ [Value.int .i64 (r.first : Int), .int .i64 (r.count : Int)]) ++ suf).take (pre.length + k * 2) = pre ++ (rgc r.ring).take (k * 2) := by
    rw [List.append_assoc, List.take_append, List.take_of_length_le (by omega), Nat.add_sub_cancel_left, List.append_assoc, List.take_append_of_le_length (by omega)]
  have t2 : (pre ++ (rgc r.ring ++ [Value.int .i64 (r.first : Int), .int .i64 (r.count : Int)]) ++ suf).drop (pre.length + k * 2 + 2) = (rgc r.ring).drop (k * 2 + 2) ++ ([Value.int .i64 (r.first : Int), .int .i64 (r.count : Int)] ++ suf) := by
    rw [Nat.add_assoc, List.append_assoc, ← List.drop_drop, List.drop_left, List.append_assoc, List.drop_append_of_le_length (by omega)]
  rw [t1, t2]
  simp [List.append_assoc]
end

/-! ### What waits -/
def Rw.item (r : Rw) (k : Nat) : It := r.ring.getD ((r.first + k) % 64) e0
def Rw.items (r : Rw) : List It := (List.range r.count).map r.item
def Rw.pop (r : Rw) : Rw := { ring := r.ring.set r.first e0, first := (r.first + 1) % 64, count := r.count - 1 }
def Rw.put (r : Rw) (x : It) : Rw := { r with ring := r.ring.set ((r.first + r.count) % 64) x, count := r.count + 1 }
def Rw.push (r : Rw) (s : ByteArray) : Rw := if r.count = 64 then r.pop.put (s, 0) else r.put (s, 0)
theorem Rw.Wf.pop {r : Rw} (h : r.Wf) : r.pop.Wf := ⟨by simp [Rw.pop, h.len], by simp only [Rw.pop]; omega, by simp only [Rw.pop]; have := h.c; omega⟩
theorem Rw.Wf.put {r : Rw} (h : r.Wf) (hc : r.count < 64) (x : It) : (r.put x).Wf := ⟨by simp [Rw.put, h.len], h.f, by simp only [Rw.put]; omega⟩
theorem Rw.Wf.push {r : Rw} (h : r.Wf) (s : ByteArray) : (r.push s).Wf := by
  unfold Rw.push
  split
  · exact h.pop.put (by simp only [Rw.pop]; omega) _
  · exact h.put (by have := h.c; omega) _
theorem Rw.items_length (r : Rw) : r.items.length = r.count := by simp [Rw.items]
theorem Rw.items_pop {r : Rw} (h : r.Wf) (hc : 0 < r.count) : r.items = r.ring.getD r.first e0 :: r.pop.items := by
  have hf := h.f; have hl := h.len; have hcc := h.c
  apply List.ext_getElem
  · simp [Rw.items, Rw.pop]; omega
  · intro k h1 h2
    simp only [Rw.items, List.length_map, List.length_range] at h1
    cases k with
    | zero =>
      simp only [Rw.items, List.getElem_map, List.getElem_range, Rw.item, List.getElem_cons_zero, Nat.add_zero]
      rw [Nat.mod_eq_of_lt hf]
    | succ k =>
      simp only [Rw.items, List.getElem_map, List.getElem_range, Rw.item, List.getElem_cons_succ, Rw.pop]
      rw [show ((r.first + 1) % 64 + k) % 64 = (r.first + (k + 1)) % 64 by omega]
      rw [List.getD_eq_getElem?_getD, List.getD_eq_getElem?_getD, List.getElem?_set_ne (by omega)]
theorem Rw.items_put {r : Rw} (h : r.Wf) (hc : r.count < 64) (x : It) : (r.put x).items = r.items ++ [x] := by
  have hf := h.f; have hl := h.len
  simp only [Rw.items, Rw.put, List.range_succ, List.map_append, List.map_cons, List.map_nil]
  congr 1
  · apply List.map_congr_left
    intro k hk
    have hk : k < r.count := by simpa using hk
    simp only [Rw.item]
    rw [List.getD_eq_getElem?_getD, List.getD_eq_getElem?_getD, List.getElem?_set_ne (by omega)]
  · simp only [Rw.item]
    rw [List.getD_eq_getElem?_getD, List.getElem?_set_self (by omega)]
    rfl
theorem Rw.items_push {r : Rw} (h : r.Wf) (s : ByteArray) : (r.push s).items = (if r.count = 64 then r.items.tail else r.items) ++ [(s, 0)] := by
  unfold Rw.push
  by_cases hc : r.count = 64
  · rw [if_pos hc, if_pos hc, Rw.items_put h.pop (by simp only [Rw.pop]; omega), Rw.items_pop h (by omega)]
    rfl
  · rw [if_neg hc, if_neg hc, Rw.items_put h (by have := h.c; omega)]
end Go.Proofs.Ytcafmbbimoddjaa.LN
