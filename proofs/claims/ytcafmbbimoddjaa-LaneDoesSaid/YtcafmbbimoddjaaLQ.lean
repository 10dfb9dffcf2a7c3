/- All rows: what waits in each, as a resource. -/
import Derived.Test.YtcafmbbimoddjaaLA
set_option linter.unusedVariables false
set_option linter.unusedSimpArgs false
namespace Go.Proofs.Ytcafmbbimoddjaa.LN
open Go.RowKit Go.Proofs.Ytcafmbbimoddjaa.K

theorem lcells_length : ∀ (l : List Rw), (∀ r ∈ l, r.Wf) → (lcells l).length = l.length * 130
  | [], _ => rfl
  | r :: l, h => by
    have ih := lcells_length l (fun x hx => h x (by simp [hx]))
    have := cells_length (h r (by simp))
    simp only [lcells, List.flatMap_cons, List.length_append, List.length_cons] at ih ⊢
    omega
structure LWf (N : Int) (rows : List Rw) : Prop where
  len : rows.length = 48
  wf : ∀ r ∈ rows, r.Wf
  age : ∀ r ∈ rows, ∀ x ∈ r.ring, 0 ≤ x.2 ∧ x.2 ≤ N
theorem split_at {rows : List Rw} {k : Nat} (hk : k < rows.length) : rows = rows.take k ++ rows.getD k zr :: rows.drop (k + 1) := by
  rw [List.getD_eq_getElem?_getD, List.getElem?_eq_getElem hk, Option.getD_some, ← List.drop_eq_getElem_cons hk, List.take_append_drop]
theorem lcells_at {rows : List Rw} {k : Nat} (hk : k < rows.length) : lcells rows = lcells (rows.take k) ++ (rows.getD k zr).cells ++ lcells (rows.drop (k + 1)) := by
  have := congrArg lcells (split_at hk)
  rw [this]
  simp [lcells, List.flatMap_append, List.append_assoc]
theorem lcells_set {rows : List Rw} {k : Nat} (hk : k < rows.length) (r : Rw) : lcells (rows.take k) ++ r.cells ++ lcells (rows.drop (k + 1)) = lcells (rows.set k r) := by
  rw [List.set_eq_take_append_cons_drop, if_pos hk]
  simp [lcells, List.flatMap_append, List.append_assoc]
theorem LWf.get {N : Int} {rows : List Rw} (h : LWf N rows) {k : Nat} (hk : k < 48) : rows.getD k zr ∈ rows := by
  rw [List.getD_eq_getElem?_getD, List.getElem?_eq_getElem (by rw [h.len]; exact hk)]
  simp
theorem LWf.set {N : Int} {rows : List Rw} (h : LWf N rows) (k : Nat) {r : Rw} (hr : r.Wf) (ha : ∀ x ∈ r.ring, 0 ≤ x.2 ∧ x.2 ≤ N) : LWf N (rows.set k r) := by
  refine ⟨by simp [h.len], fun x hx => ?_, fun x hx => ?_⟩
  · rcases List.mem_or_eq_of_mem_set hx with h1 | rfl
    · exact h.wf x h1
    · exact hr
  · rcases List.mem_or_eq_of_mem_set hx with h1 | rfl
    · exact h.age x h1
    · exact ha
theorem LWf.pre {N : Int} {rows : List Rw} (h : LWf N rows) {k : Nat} (hk : k < 48) : (lcells (rows.take k)).length = k * 130 := by
  rw [lcells_length _ (fun r hr => h.wf r (List.mem_of_mem_take hr)), List.length_take, h.len, Nat.min_eq_left (by omega)]
def LR (b : Nat) (rows : List Rw) : Res := cellsR b (lcells rows) 53
theorem LR_at {b : Nat} {N : Int} {rows : List Rw} (h : LWf N rows) {k : Nat} (hk : k < 48) : LR b rows = rowR' b (lcells (rows.take k)) (rows.getD k zr) (lcells (rows.drop (k + 1))) := by
  unfold LR rowR'
  rw [← lcells_at (by rw [h.len]; exact hk)]
theorem LR_set {b : Nat} {N : Int} {rows : List Rw} (h : LWf N rows) {k : Nat} (hk : k < 48) (r : Rw) : rowR' b (lcells (rows.take k)) r (lcells (rows.drop (k + 1))) = LR b (rows.set k r) := by
  unfold LR rowR'
  rw [lcells_set (by rw [h.len]; exact hk)]

/-! ### What waits, told alone -/
abbrev Qs := List (List It)
/-- Block b holds rows in which qs wait, none older than N. -/
def QR (b : Nat) (N : Int) (qs : Qs) : Res where
  fp := [b]
  holds w := ∃ rows, LWf N rows ∧ rows.map Rw.items = qs ∧ (LR b rows).holds w
  loc w w' h := by rintro ⟨rows, h1, h2, h3⟩; exact ⟨rows, h1, h2, (LR b rows).loc w w' h h3⟩
section
variable {w0 w : World} {F0 : List Nat} {L G : List Res} {b : Nat} {N : Int} {qs : Qs}
theorem _root_.Go.Proofs.Ytcafmbbimoddjaa.K.St.openQ (h : St w0 F0 w (QR b N qs :: L) G) : ∃ rows, LWf N rows ∧ rows.map Rw.items = qs ∧ St w0 F0 w (LR b rows :: L) G := by
  obtain ⟨rows, h1, h2, h3⟩ := h.res (QR b N qs) (by simp)
  exact ⟨rows, h1, h2, h.turn1 (by simp [LR, QR]) (by simp [LR]) (fun _ => h3)⟩
theorem _root_.Go.Proofs.Ytcafmbbimoddjaa.K.St.shutQ {rows : List Rw} (h : St w0 F0 w (LR b rows :: L) G) (h1 : LWf N rows) (h2 : rows.map Rw.items = qs) : St w0 F0 w (QR b N qs :: L) G :=
  h.turn1 (by simp [LR, QR]) (by simp [QR]) (fun h3 => ⟨rows, h1, h2, h3⟩)
theorem _root_.Go.Proofs.Ytcafmbbimoddjaa.K.St.shutQ' {rows : List Rw} (h : St w0 F0 w (LR b rows :: L) G) (h1 : LWf N rows) : St w0 F0 w (QR b N (rows.map Rw.items) :: L) G := St.shutQ h h1 rfl
end
theorem QR_len {b : Nat} {N : Int} {qs : Qs} {w : World} (h : (QR b N qs).holds w) : qs.length = 48 := by
  obtain ⟨rows, h1, rfl, _⟩ := h
  simp [h1.len]
theorem zr_wf : zr.Wf := ⟨by simp [zr], by decide, by decide⟩
theorem zr_items : zr.items = [] := rfl
theorem new_wf : LWf 0 (List.replicate 48 zr) := by
  refine ⟨by simp, fun r hr => ?_, fun r hr x hx => ?_⟩
  · rw [List.eq_of_mem_replicate hr]; exact zr_wf
  · rw [List.eq_of_mem_replicate hr] at hx
    have := List.eq_of_mem_replicate (show x ∈ List.replicate 64 e0 from hx)
    subst this
    exact ⟨by decide, by decide⟩
theorem new_items : (List.replicate 48 zr).map Rw.items = List.replicate 48 [] := by rw [List.map_replicate]; rfl
theorem map_items_getD {N : Int} {rows : List Rw} (h : LWf N rows) {k : Nat} (hk : k < 48) : (rows.map Rw.items).getD k [] = (rows.getD k zr).items := by
  rw [List.getD_eq_getElem?_getD, List.getD_eq_getElem?_getD, List.getElem?_map, List.getElem?_eq_getElem (by rw [h.len]; exact hk)]
  rfl
theorem map_items_set (rows : List Rw) (k : Nat) (r : Rw) : (rows.set k r).map Rw.items = (rows.map Rw.items).set k r.items := by rw [List.map_set]
theorem LWf.le {N M : Int} {rows : List Rw} (h : LWf N rows) (hm : N ≤ M) : LWf M rows := ⟨h.len, h.wf, fun r hr x hx => by have := h.age r hr x hx; omega⟩

/-! ### What calls do -/
def inR (who : Int) : Prop := 0 ≤ who ∧ who < 48
instance (who : Int) : Decidable (inR who) := by unfold inR; infer_instance
def qat (qs : Qs) (who : Int) : List It := qs.getD who.toNat []
def putQ (q : List It) (s : ByteArray) : List It := (if q.length = 64 then q.tail else q) ++ [(s, 0)]
def pushQ (qs : Qs) (who : Int) (s : ByteArray) : Qs := if inR who ∧ s.size ≤ 4096 then qs.set who.toNat (putQ (qat qs who) s) else qs
def pushE (qs : Qs) (who : Int) (s : ByteArray) : Int := if inR who then if s.size ≤ 4096 then if (qat qs who).length = 64 then 8 else 0 else 3 else 1
def popQ (qs : Qs) (who : Int) : Qs := if inR who then qs.set who.toNat (qat qs who).tail else qs
def popV (qs : Qs) (who : Int) : It := if inR who then (qat qs who).headD e0 else e0
def popB (qs : Qs) (who : Int) : Bool := decide (inR who ∧ qat qs who ≠ [])
def lenQ (qs : Qs) (who : Int) : Nat := if inR who then (qat qs who).length else 0
def clearQ (qs : Qs) (who : Int) : Qs := if inR who then qs.set who.toNat [] else qs
def older (x : It) : It := (x.1, x.2 + 1)
def stay (most : Int) (q : List It) : List It := (q.map older).filter fun x => decide (x.2 ≤ most)
def tickQ (qs : Qs) (most : Int) : Qs := qs.map (stay most)
def tot (qs : Qs) : Nat := (qs.map List.length).sum
def tickN (qs : Qs) (most : Int) : Nat := tot qs - tot (tickQ qs most)

theorem age_push {N : Int} (hN : 0 ≤ N) {r : Rw} (h : ∀ x ∈ r.ring, 0 ≤ x.2 ∧ x.2 ≤ N) (s : ByteArray) : ∀ x ∈ (r.push s).ring, 0 ≤ x.2 ∧ x.2 ≤ N := by
  have hset : ∀ (l : List It) (k : Nat) (y : It), (∀ x ∈ l, 0 ≤ x.2 ∧ x.2 ≤ N) → (0 ≤ y.2 ∧ y.2 ≤ N) → ∀ x ∈ l.set k y, 0 ≤ x.2 ∧ x.2 ≤ N := by
    intro l k y h1 h2 x hx
    rcases List.mem_or_eq_of_mem_set hx with h3 | rfl
    · exact h1 x h3
    · exact h2
  unfold Rw.push
  split
  · exact hset _ _ _ (hset _ _ _ h ⟨Int.le_refl 0, hN⟩) ⟨Int.le_refl 0, hN⟩
  · exact hset _ _ _ h ⟨Int.le_refl 0, hN⟩
theorem age_pop {N : Int} (hN : 0 ≤ N) {r : Rw} (h : ∀ x ∈ r.ring, 0 ≤ x.2 ∧ x.2 ≤ N) : ∀ x ∈ r.pop.ring, 0 ≤ x.2 ∧ x.2 ≤ N := by
  intro x hx
  rcases List.mem_or_eq_of_mem_set hx with h3 | rfl
  · exact h x h3
  · exact ⟨Int.le_refl 0, hN⟩
theorem items_getD {r : Rw} (h : r.Wf) (hc : 0 < r.count) : r.items.headD e0 = r.ring.getD r.first e0 ∧ r.items.tail = r.pop.items := by
  rw [Rw.items_pop h hc]; exact ⟨rfl, rfl⟩
section
variable {w0 w : World} {F0 : List Nat} {L G : List Res} {b : Nat} {N : Int} {rows : List Rw} {who : Int}
theorem inR.lt (h : inR who) : who.toNat < 48 := by unfold inR at h; omega
theorem qat_map (hw : LWf N rows) (h : inR who) : qat (rows.map Rw.items) who = (rows.getD who.toNat zr).items := map_items_getD hw h.lt
theorem push_done (hw : LWf N rows) (hN : 0 ≤ N) (h : inR who) {s : ByteArray} (hs : s.size ≤ 4096)
    (hst : St w0 F0 w (rowR' b (lcells (rows.take who.toNat)) ((rows.getD who.toNat zr).push s) (lcells (rows.drop (who.toNat + 1))) :: L) G) : St w0 F0 w (QR b N (pushQ (rows.map Rw.items) who s) :: L) G := by
  have hm := hw.get h.lt
  rw [LR_set hw h.lt] at hst
  refine St.shutQ hst (hw.set _ ((hw.wf _ hm).push s) (age_push hN (hw.age _ hm) s)) ?_
  rw [map_items_set, Rw.items_push (hw.wf _ hm), show pushQ (rows.map Rw.items) who s = (rows.map Rw.items).set who.toNat (putQ (qat (rows.map Rw.items) who) s) from if_pos ⟨h, hs⟩]
  unfold putQ
  rw [qat_map hw h, Rw.items_length]
theorem pushE_eq (hw : LWf N rows) (h : inR who) {s : ByteArray} (hs : s.size ≤ 4096) : pushE (rows.map Rw.items) who s = if (rows.getD who.toNat zr).count = 64 then 8 else 0 := by
  unfold pushE
  rw [if_pos h, if_pos hs, qat_map hw h, Rw.items_length]
theorem pop_done (hw : LWf N rows) (hN : 0 ≤ N) (h : inR who) (hc : 0 < (rows.getD who.toNat zr).count)
    (hst : St w0 F0 w (rowR' b (lcells (rows.take who.toNat)) ((rows.getD who.toNat zr).pop) (lcells (rows.drop (who.toNat + 1))) :: L) G) : St w0 F0 w (QR b N (popQ (rows.map Rw.items) who) :: L) G := by
  have hm := hw.get h.lt
  rw [LR_set hw h.lt] at hst
  refine St.shutQ hst (hw.set _ (hw.wf _ hm).pop (age_pop hN (hw.age _ hm))) ?_
  rw [map_items_set]
  unfold popQ
  rw [if_pos h, qat_map hw h, (items_getD (hw.wf _ hm) hc).2]
theorem popV_eq (hw : LWf N rows) (h : inR who) (hc : 0 < (rows.getD who.toNat zr).count) : popV (rows.map Rw.items) who = (rows.getD who.toNat zr).ring.getD (rows.getD who.toNat zr).first e0 := by
  unfold popV
  rw [if_pos h, qat_map hw h, (items_getD (hw.wf _ (hw.get h.lt)) hc).1]
theorem items_nil {r : Rw} (h : r.count = 0) : r.items = [] := List.eq_nil_of_length_eq_zero (by rw [Rw.items_length, h])
theorem items_ne {r : Rw} (h : r.count ≠ 0) : r.items ≠ [] := fun e => h (by rw [← Rw.items_length, e]; rfl)
theorem set_self {qs : Qs} {k : Nat} (h : qs.getD k [] = []) : qs.set k [] = qs := by
  apply List.ext_getElem?
  intro i
  rw [List.getElem?_set]
  split
  · rename_i e; subst e
    rw [List.getD_eq_getElem?_getD] at h
    split
    · rename_i hl; rw [List.getElem?_eq_getElem hl] at h ⊢; simp at h; rw [h]
    · rename_i hl; rw [List.getElem?_eq_none (by omega)]
  · rfl
theorem clear_done {q : Rw} (hw : LWf N rows) (h : inR who) (hq : q.Wf) (ha : ∀ x ∈ q.ring, 0 ≤ x.2 ∧ x.2 ≤ N) (hc : q.count = 0)
    (hst : St w0 F0 w (rowR' b (lcells (rows.take who.toNat)) q (lcells (rows.drop (who.toNat + 1))) :: L) G) : St w0 F0 w (QR b N (clearQ (rows.map Rw.items) who) :: L) G := by
  rw [LR_set hw h.lt] at hst
  refine St.shutQ hst (hw.set _ hq ha) ?_
  rw [map_items_set, items_nil hc]
  unfold clearQ
  rw [if_pos h]

/-! ### Tick -/
theorem stay_snoc (most : Int) (q : List It) (x : It) : stay most (q ++ [x]) = stay most q ++ (if x.2 + 1 ≤ most then [older x] else []) := by
  unfold stay
  rw [List.map_append, List.filter_append]
  congr 1
  by_cases h : x.2 + 1 ≤ most <;> simp [older, h]
theorem stay_len (most : Int) (q : List It) : (stay most q).length ≤ q.length := by
  unfold stay
  have := List.length_filter_le (fun x : It => decide (x.2 ≤ most)) (q.map older)
  simpa using this
def gn (qs : Qs) (most : Int) (k : Nat) : Int := (tot (qs.take k) : Int) - (tot (tickQ (qs.take k) most) : Int)
theorem tot_append (a b : Qs) : tot (a ++ b) = tot a + tot b := by simp [tot, List.map_append, List.sum_append]
theorem gn_succ {qs : Qs} {most : Int} {k : Nat} (hk : k < qs.length) : gn qs most (k + 1) = gn qs most k + (((qs.getD k []).length : Int) - ((stay most (qs.getD k [])).length : Int)) := by
  have e : qs.take (k + 1) = qs.take k ++ [qs.getD k []] := by rw [List.take_succ_eq_append_getElem hk, List.getD_eq_getElem?_getD, List.getElem?_eq_getElem hk]; rfl
  unfold gn
  rw [e]
  unfold tickQ
  rw [List.map_append, tot_append, tot_append]
  simp [tot]
  omega
theorem tick_step {qs : Qs} {most : Int} {k : Nat} (hk : k < qs.length) : (tickQ (qs.take k) most ++ qs.drop k).set k (stay most (qs.getD k [])) = tickQ (qs.take (k + 1)) most ++ qs.drop (k + 1) := by
  have hl : (tickQ (qs.take k) most).length = k := by simp [tickQ]; omega
  have e : qs.take (k + 1) = qs.take k ++ [qs.getD k []] := by rw [List.take_succ_eq_append_getElem hk, List.getD_eq_getElem?_getD, List.getElem?_eq_getElem hk]; rfl
  rw [e, List.set_append_right _ _ (by omega), hl, Nat.sub_self, List.drop_eq_getElem_cons hk, List.set_cons_zero]
  simp [tickQ]
theorem item_age {r : Rw} (hr : r.Wf) (ha : ∀ x ∈ r.ring, 0 ≤ x.2 ∧ x.2 ≤ N) : ∀ x ∈ r.items, 0 ≤ x.2 ∧ x.2 ≤ N := by
  intro x hx
  obtain ⟨k, _, rfl⟩ := List.mem_map.1 hx
  unfold Rw.item
  rw [List.getD_eq_getElem?_getD, List.getElem?_eq_getElem (by rw [hr.len]; omega)]
  exact ha _ (by simp)
theorem age_pop' {M : Int} (hM : 0 ≤ M) {r : Rw} (h : ∀ x ∈ r.ring, 0 ≤ x.2 ∧ x.2 ≤ M) : ∀ x ∈ r.pop.ring, 0 ≤ x.2 ∧ x.2 ≤ M := age_pop hM h
theorem age_put {M : Int} {r : Rw} (h : ∀ x ∈ r.ring, 0 ≤ x.2 ∧ x.2 ≤ M) (y : It) (hy : 0 ≤ y.2 ∧ y.2 ≤ M) : ∀ x ∈ (r.put y).ring, 0 ≤ x.2 ∧ x.2 ≤ M := by
  intro x hx
  rcases List.mem_or_eq_of_mem_set hx with h3 | rfl
  · exact h x h3
  · exact hy
end
end Go.Proofs.Ytcafmbbimoddjaa.LN
