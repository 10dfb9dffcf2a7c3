/- The base of this seat's walks, continued: regions that draw their order. -/
import Derived.Test.YtkbkgpedpaodlaaK1
import Derived.Deep.RegionHeld3
set_option linter.unusedVariables false
set_option linter.unusedSimpArgs false
namespace Go.Proofs.Ytkbkgpedpaodlaa.K
open Go.RowKit

/-- What holds all through a region: what was owned and known ahead of it still is. -/
def Ctx (w0 : World) (F0 : List Nat) (L G : List Res) : World → Prop := fun w => ∃ L' G', St w0 F0 w (L' ++ L) (G' ++ G)

section
variable {P : Program} {ops : Array Oper} {o : Oper} {a : Act} {w0 : World} {F0 : List Nat} {L G : List Res}

theorem Ctx.cell {w : World} (h : Ctx w0 F0 L G w) {b : Nat} {cs : List Value} {e : TypeId} (hm : cellsR b cs e ∈ L ∨ cellsR b cs e ∈ G) (i : Nat) : w.cell? ⟨b, i, none⟩ = cs[i]? := by
  obtain ⟨L', G', hst⟩ := h
  exact hst.cell (hm.imp (fun h => List.mem_append.2 (.inr h)) (fun h => List.mem_append.2 (.inr h))) i
theorem y_at (hw : Region.wanted o (yielded ops a.tmps) = true) {t : TypeId} {x : Operand} (ho : o.op = .load t x) {ad : Addr} (hx : a.eval x = .pointer (some ad)) {v : Value}
    (hr : ∀ w, Ctx w0 F0 L G w → (loadVar t ad).run P w = .ok v w) : YieldsIf P ops (Ctx w0 F0 L G) o v a := by
  refine .inl ⟨hw, fun w hS => ?_⟩
  simp [execOp, ho, Instr.loadAt, Instr.sureAddr, hx, hr w hS]
theorem y_load (hw : Region.wanted o (yielded ops a.tmps) = true) {t : TypeId} {x : Operand} (ho : o.op = .load t x) {b i : Nat} (hx : a.eval x = .pointer (some ⟨b, i, none⟩)) (j : Nat)
    {cs : List Value} {e : TypeId} (hL : L[j]? = some (cellsR b cs e)) (hag : ∀ w, (isAgg t).run P w = .ok false w) {v : Value} (hc : cs[i]? = some v) : YieldsIf P ops (Ctx w0 F0 L G) o v a :=
  y_at hw ho hx fun w hS => run_load_cell hag (by rw [hS.cell (.inl (List.mem_of_getElem? hL)) i, hc])
theorem y_loadG (hw : Region.wanted o (yielded ops a.tmps) = true) {t : TypeId} {x : Operand} (ho : o.op = .load t x) {b i : Nat} (hx : a.eval x = .pointer (some ⟨b, i, none⟩)) (j : Nat)
    {cs : List Value} {e : TypeId} (hL : G[j]? = some (cellsR b cs e)) (hag : ∀ w, (isAgg t).run P w = .ok false w) {v : Value} (hc : cs[i]? = some v) : YieldsIf P ops (Ctx w0 F0 L G) o v a :=
  y_at hw ho hx fun w hS => run_load_cell hag (by rw [hS.cell (.inr (List.mem_of_getElem? hL)) i, hc])
theorem y_loadA (hw : Region.wanted o (yielded ops a.tmps) = true) {t : TypeId} {x : Operand} (ho : o.op = .load t x) {b i : Nat} (hx : a.eval x = .pointer (some ⟨b, i, none⟩)) (j : Nat)
    {cs : List Value} {e : TypeId} (hL : L[j]? = some (cellsR b cs e)) (hag : ∀ w, (isAgg t).run P w = .ok true w) {n : Nat} (hsz : ∀ w, (sizeOf t).run P w = .ok n w) (hn : i + n ≤ cs.length) : YieldsIf P ops (Ctx w0 F0 L G) o (.agg ((cs.drop i).take n).toArray) a :=
  y_at hw ho hx fun w hS => run_load_agg hag hsz (by simp; omega) (by
    intro j' v hv
    rw [add_lit', hS.cell (.inl (List.mem_of_getElem? hL)) (i + j')]
    rw [List.getElem?_take] at hv
    split at hv
    · rw [List.getElem?_drop] at hv; exact hv
    · cases hv)
/-- 'wpAnyH_take' where the operations stand as a list: the operation is read off written out. -/
theorem takeL {Q : Exit → Act → World → Prop} {md : Region.Mode} {S : World → Prop} {l rest : List Oper} (i : Nat) {oi : Oper} (hl : l.drop i = oi :: rest) {v : Value} {fuel : Nat} {listed : Array Bool} {a : Act} {w : World}
    (hs : Region.noSelect l.toArray = true) (hf : Region.free md l.toArray listed i = true) (hr : (Region.ready md l.toArray listed).contains i = true)
    (hQ : ∀ c a w, Q (.panic c) (a.put oi.dst v) w → Q (.panic c) a w) (hy : YieldsIf P l.toArray S oi v a) (hS : S w)
    (h : wpAnyH P md l.toArray Q S fuel (listed.setIfInBounds i true) (a.put oi.dst v) w) : wpAnyH P md l.toArray Q S (fuel + 1) listed a w := by
  have hi : l.toArray[i]? = some oi := by
    rw [List.getElem?_toArray]
    have h0 : (l.drop i)[0]? = some oi := by rw [hl]; rfl
    simpa using h0
  exact wpAnyH_take hi hs hf hr hQ hy hS h
/-- The one operation that may come up now. -/
theorem nextL {Q : Exit → Act → World → Prop} {md : Region.Mode} {S : World → Prop} {l rest : List Oper} (i : Nat) {o : Oper} (hl : l.drop i = o :: rest) {fuel : Nat} {listed : Array Bool} {a : Act} {w : World}
    (hr : Region.ready md l.toArray listed = [i])
    (h : ∀ K' : Act → World → Prop, Shut (∀ a w, S w → (S w → wpAnyH P md l.toArray Q S fuel (listed.setIfInBounds i true) a w) → K' a w) → opK P l.toArray Q o K' a w) :
    wpAnyH P md l.toArray Q S (fuel + 1) listed a w := by
  have hi : l.toArray[i]? = some o := by
    rw [List.getElem?_toArray]
    have h0 : (l.drop i)[0]? = some o := by rw [hl]; rfl
    simpa using h0
  exact wpAnyH_ready hr (by simp) (AllReadyH.cons hi h AllReadyH.nil)
/-- Any operation that comes to v wherever the context holds. -/
theorem y_run (hw : Region.wanted o (yielded ops a.tmps) = true) {v : Value} (h : ∀ w, Ctx w0 F0 L G w → (execOp a.eval o).run P w = .ok (.value v) w) : YieldsIf P ops (Ctx w0 F0 L G) o v a := .inl ⟨hw, h⟩
end
end Go.Proofs.Ytkbkgpedpaodlaa.K
