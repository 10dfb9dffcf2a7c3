/- The base of this seat's walks, anew: own rows, append, copy, reslicing. -/
import Derived.Test.YtkbkgpedpaodlaaE1
set_option linter.unusedVariables false
set_option linter.unusedSimpArgs false
namespace Go.Proofs.Ytkbkgpedpaodlaa.K
open Go.RowKit

section
variable {P : Program} {n : Fr} {c : Code} {Q : Post} {ρ : Env} {w0 w : World} {F0 : List Nat} {L G : List Res} {S : World → Prop} {ty t t' : TypeId} {x y : Operand}

/-- What is written of one's own is nothing: a nil slice. -/
theorem St.nilRow (h : St w0 F0 w L G) (e : TypeId) (size : Nat) : St w0 F0 w (rowR (.slice none 0 0) e size 0 [] :: L) G :=
  St.turn (L1 := []) (L2 := [rowR (.slice none 0 0) e size 0 []]) h (by simp [blockOf]) (by simp [blockOf]) (by intro r hr; simp at hr; subst hr; exact rowR_nil w e size)
/-- A row that will only be read. -/
theorem St.rowSl {v : Value} {e : TypeId} {size m : Nat} {xs : List Value} (h : St w0 F0 w (rowR v e size m xs :: L) G) : St w0 F0 w (slR v m xs :: L) G :=
  h.turn1 (fun b hb => by rw [rowR_fp]; exact slR_fp v m xs b hb) (by
    have hn : (blockOf v).Nodup := by
      obtain ⟨A, cp, rfl, _⟩ := rowR_shape (h.res (rowR v e size m xs) (by simp))
      cases A <;> simp [blockOf]
    simp only [slR]; split
    · exact List.nodup_nil
    · exact hn) rowR_sl
theorem X.litRow (hst : St w0 F0 w L G) {e : TypeId} (ht : P.underlying t = some (.slice e)) {size : Nat} (hs : ∀ w, (sizeOf e).run P w = .ok size w) {K : Value → World → Prop}
    (k : ∀ b w', St w0 F0 w' (rowR (.slice (some ⟨b, 0, none⟩) 0 0) e size 0 [] :: L) G → K (.slice (some ⟨b, 0, none⟩) 0 0) w') : X P ρ w (.buildSlice t 0 #[]) ty K := by
  intro a ops Q o ho _ ha hw
  refine r_litRow hst hw ho ht hs ?_
  rintro v w' h ⟨b, rfl⟩
  exact ⟨_, rfl, k b w' h⟩
/-- A literal of one struct. -/
theorem X.lit1 (hst : St w0 F0 w L G) {e : TypeId} {x : Operand} {m : Nat} (ht : P.underlying t = some (.slice e)) (hs : ∀ w, (sizeOf e).run P w = .ok m w) {z : Value} (hz : ∀ w, (zeroValue e).run P w = .ok z w) (hl : Nat.ble m 16777216 = true)
    {vs : List Value} (hx : ev ρ x = .agg vs.toArray) (hm : vs.length = m) {K : Value → World → Prop} (k : ∀ b w', St w0 F0 w' (cellsR b vs e :: L) G → K (.slice (some ⟨b, 0, none⟩) 1 1) w') : X P ρ w (.buildSlice t 1 #[(0, x)]) ty K := by
  intro a ops Q o ho _ ha hw
  refine r_lit1 hst hw ho ht (v := .agg vs.toArray) (by rw [ha]; exact hx) hs (by simp [Value.cells, hm]) hz (Nat.le_of_ble_eq_true hl) ?_
  intro b w' h
  exact ⟨_, rfl, k b w' (by simpa [Value.cells] using h)⟩
theorem X.append (hst : St w0 F0 w L G) (j : Nat) {e : TypeId} (ht : P.underlying t = some (.slice e)) {z : Value} {size bytes : Nat} (hinfo : (P.info? e).map (fun i => (i.zero, i.size, i.bytes)) = some (some z, size, bytes)) (hzs : z.cells.size = size) (hsz : Nat.blt 0 size = true)
    {v : Value} {m : Nat} {xs : List Value} (hx : ev ρ x = v) (hL : L[j]? = some (rowR v e size m xs)) {u : Value} {m' : Nat} {news : List Value} (hy : ev ρ y = u) (hr : Rds L G u m' news) (hl : news.length = m' * size) (h1 : ∀ u ∈ news, u.oneCell' = true)
    (h63 : m + m' ≤ maxLen) (hbytes : (m + m') * bytes ≤ 140737488355328) {K : Value → World → Prop} (k : ∀ v' w', St w0 F0 w' (L.set j (rowR v' e size (m + m') (xs ++ news))) G → K v' w') :
    X P ρ w (.call { callee := .builtin .append, args := #[x, y], argTypes := #[t, t] }) ty K := by
  intro a ops Q o ho _ ha hw
  refine r_append hst j hw ho ht hinfo hzs (by simpa [Nat.blt_eq] using hsz) (by rw [ha]; exact hx) hL (by rw [ha]; exact hy) hr hl h1 h63 hbytes ?_
  intro v' w' h _
  exact ⟨_, rfl, k v' w' h⟩
theorem X.copy (hst : St w0 F0 w L G) (j : Nat) {e : TypeId} (ht : P.underlying t = some (.slice e)) {size : Nat} (hs1 : ∀ w, (sizeOf e).run P w = .ok size w) {b off m cp : Nat} (hx : ev ρ x = .slice (some ⟨b, off, none⟩) m cp) {cs : List Value} {e' : TypeId} (hL : L[j]? = some (cellsR b cs e'))
    {u : Value} {m' : Nat} {xs : List Value} (hy : ev ρ y = u) (hr : Rds L G u m' xs) (hl : xs.length = m' * size) (h1 : ∀ u ∈ xs, u.oneCell' = true) (hmn : m' ≤ m) (hfit : off + xs.length ≤ cs.length) {K : Value → World → Prop}
    (k : ∀ w', St w0 F0 w' (L.set j (cellsR b (splice cs off xs) e')) G → K (.int .i64 (m' : Int)) w') : X P ρ w (.call { callee := .builtin .copy, args := #[x, y], argTypes := #[t, t] }) ty K := by
  intro a ops Q o ho _ ha hw
  refine r_copy hst j hw ho ht hs1 (by rw [ha]; exact hx) hL (by rw [ha]; exact hy) hr hl h1 hmn hfit ?_
  intro w' h
  exact ⟨_, rfl, k w' h⟩

/-! ### Reslicing -/
/-- Where a slice begins behind its first l elements. -/
def resl (A : Option Addr) (cp l size : Nat) : Option Addr := if cp = l then A else A.map (·.add (l * size))
theorem Y.sliceHi {e : TypeId} (ht : P.underlying t = some (.slice e)) {size : Nat} (hs : ∀ w, (sizeOf e).run P w = .ok size w) {A : Option Addr} {l cp : Nat} (hx : ev ρ x = .slice A l cp) {ki : IntKind} {h : Int} {m : Nat} (hy : ev ρ y = .int ki h) (hm : h = (m : Int)) (hb : m ≤ cp) :
    Y P S ρ (.slice t x none (some y) none) ty (.slice A m cp) := fun w _ o ho _ => by
  subst hm
  have e1 : (if cp = 0 then A else Option.map (fun x => x.add 0) A) = A := by
    split
    · rfl
    · cases A <;> simp [Addr.add]
  have hb' : (m : Int) ≤ (cp : Int) := by omega
  have h0 : (0 : Int) ≤ (m : Int) := by omega
  simp [execOp, ho, hx, hy, Instr.sliceAt, Instr.slice, Instr.sliceBounds, Instr.sliceBound, asIntOf, run_underlying ht, hs, hb, h0, e1]
theorem Y.sliceLo {e : TypeId} (ht : P.underlying t = some (.slice e)) {size : Nat} (hs : ∀ w, (sizeOf e).run P w = .ok size w) {A : Option Addr} {l cp : Nat} (hx : ev ρ x = .slice A l cp) {ki : IntKind} {h : Int} {m : Nat} (hy : ev ρ y = .int ki h) (hm : h = (m : Int)) (hb : m ≤ l) :
    Y P S ρ (.slice t x (some y) none none) ty (.slice (resl A cp m size) (l - m) (cp - m)) := fun w _ o ho _ => by
  subst hm
  have hb' : (m : Int) ≤ (l : Int) := by omega
  have h0 : (0 : Int) ≤ (m : Int) := by omega
  simp [execOp, ho, hx, hy, Instr.sliceAt, Instr.slice, Instr.sliceBounds, Instr.sliceBound, asIntOf, run_underlying ht, hs, hb, resl]
theorem Sl.takeN {A : Option Addr} {m cp k size : Nat} {xs : List Value} (h : Sl w (.slice A m cp) m xs) (hl : xs.length = m * size) (hk : k ≤ m) : Sl w (.slice A k cp) k (xs.take (k * size)) := by
  obtain ⟨A', cap, he, hc, hA⟩ := h
  injection he with h1 _ h2; subst h1; subst h2
  refine ⟨_, _, rfl, by omega, fun hx => ?_⟩
  obtain ⟨ad, rfl, hcell⟩ := hA (by intro e; subst e; simp at hx)
  refine ⟨ad, rfl, fun j hj => ?_⟩
  rw [List.length_take] at hj
  rw [hcell j (by omega), List.getElem?_take, if_pos (by omega)]
theorem Sl.dropN {A : Option Addr} {m cp k size : Nat} {xs : List Value} (h : Sl w (.slice A m cp) m xs) (hl : xs.length = m * size) (hk : k ≤ m) : Sl w (.slice (resl A cp k size) (m - k) (cp - k)) (m - k) (xs.drop (k * size)) := by
  obtain ⟨A', cap, he, hc, hA⟩ := h
  injection he with h1 _ h2; subst h1; subst h2
  refine ⟨_, _, rfl, by omega, fun hx => ?_⟩
  have hlen : k * size < xs.length := by
    rcases Nat.lt_or_ge (k * size) xs.length with h | h
    · exact h
    · exact absurd (List.drop_of_length_le h) hx
  have hkm : k < m := by
    rcases Nat.lt_or_ge k m with h | h
    · exact h
    · have : m * size ≤ k * size := Nat.mul_le_mul_right _ h
      omega
  obtain ⟨ad, rfl, hcell⟩ := hA (by intro e; subst e; simp at hx)
  unfold resl
  rw [if_neg (by omega)]
  refine ⟨_, rfl, fun j hj => ?_⟩
  rw [List.length_drop] at hj
  rw [add_add, hcell _ (by omega), List.getElem?_drop]
theorem Rds.takeN {A : Option Addr} {m cp k size : Nat} {xs : List Value} (h : Rds L G (.slice A m cp) m xs) (hl : xs.length = m * size) (hk : k ≤ m) : Rds L G (.slice A k cp) k (xs.take (k * size)) := by
  obtain ⟨r, hr, hi⟩ := h
  exact ⟨r, hr, fun w hw => (hi w hw).takeN hl hk⟩
theorem Rds.dropN {A : Option Addr} {m cp k size : Nat} {xs : List Value} (h : Rds L G (.slice A m cp) m xs) (hl : xs.length = m * size) (hk : k ≤ m) : Rds L G (.slice (resl A cp k size) (m - k) (cp - k)) (m - k) (xs.drop (k * size)) := by
  obtain ⟨r, hr, hi⟩ := h
  exact ⟨r, hr, fun w hw => (hi w hw).dropN hl hk⟩
end
end Go.Proofs.Ytkbkgpedpaodlaa.K
