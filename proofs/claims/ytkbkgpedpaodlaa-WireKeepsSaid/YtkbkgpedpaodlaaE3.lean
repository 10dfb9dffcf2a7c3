/- The base of this seat's walks, anew: function values. -/
import Derived.Test.YtkbkgpedpaodlaaE2
import Derived.Test.YtkbkgpedpaodlaaK3
set_option linter.unusedVariables false
set_option linter.unusedSimpArgs false
namespace Go.Proofs.Ytkbkgpedpaodlaa.K
open Go.RowKit

section
variable {P : Program} {n : Fr} {c : Code} {Q : Post} {ρ : Env} {w0 w : World} {F0 : List Nat} {L G : List Res} {S : World → Prop} {ty t t' : TypeId} {x y : Operand}
theorem map_toList {xs : Array Operand} {vs : List Value} (hv : xs.toList.map (ev ρ) = vs) : xs.map (ev ρ) = vs.toArray := by
  subst hv; apply Array.ext'; simp
theorem Y.makeFunc {fn : Fn} {first cap : Array Operand} {fs cs : List Value} (hf : first.toList.map (ev ρ) = fs) (hc : cap.toList.map (ev ρ) = cs) : Y P S ρ (.makeFunc fn first cap) ty (.func fn fs.toArray cs.toArray) := fun w _ o ho _ => by
  simp only [execOp, ho, map_toList hf, map_toList hc]
  simp [Instr.makeFunc]
/-- A call through a function value. -/
theorem X.callV {f : FuncId} {k : Nat} {xs : Array Operand} {tys : Array TypeId} (hfc : ∀ args w, (callFunc f args).run P w = .ok (.enter f args) w) {fs cs : List Value} (hx : ρ k = .func (.func f) fs.toArray cs.toArray) {vs : List Value} (hv : (xs.toList.map (ev ρ)) = vs) {K : Value → World → Prop} (hc : Calls P f (fs ++ vs ++ cs).toArray w (fun e w' => ∃ v, e = .returned v ∧ K v w')) :
    X P ρ w (.call { callee := .value (.tmp k), args := xs, argTypes := tys }) ty K := by
  intro a ops Q o ho _ ha hw
  refine wpl_call hw (f := f) (args := (fs ++ vs ++ cs).toArray) ?_ (R := fun e w' => ∃ v, e = .returned v ∧ K v w') hc ?_
  · simp only [execOp, ho, ha, resolve, map_toList hv]
    have h1 : ev ρ (.tmp k) = .func (.func f) fs.toArray cs.toArray := hx
    simp [h1, Deferred.ofValue, invoke, hfc]
  · rintro e w' ⟨v, rfl, h⟩
    exact ⟨v, rfl, v, rfl, h⟩
/-- A literal of one-cell elements, as a row of its own. -/
theorem X.litsRow (hst : St w0 F0 w L G) {e : TypeId} {m : Nat} {parts : Array (Nat × Operand)} (ht : P.underlying t = some (.slice e)) (hs : ∀ w, (sizeOf e).run P w = .ok 1 w) {z : Value} (hz : ∀ w, (zeroValue e).run P w = .ok z w)
    (hi : (parts.toList.map (·.1) == List.range' 0 parts.toList.length) = true) (hn : parts.toList.length = m) (hl : Nat.ble m 16777216 = true)
    (vs : List Value) (hp : (parts.toList.map fun x => ev ρ x.2) = vs) (h1 : ones vs = true)
    {K : Value → World → Prop} (k : ∀ b w', St w0 F0 w' (rowR (.slice (some ⟨b, 0, none⟩) m m) e 1 m vs :: L) G → K (.slice (some ⟨b, 0, none⟩) m m) w') : X P ρ w (.buildSlice t m parts) ty K := by
  intro a ops Q o ho _ ha hw
  have hl' := Nat.le_of_ble_eq_true hl
  have hvs : vs.length = m := by rw [← hp, List.length_map]; exact hn
  have hc : litCells 1 m (if m * 1 = 0 then #[] else z.cells) (parts.toList.map fun x => (x.1, a.eval x.2)) = some vs.toArray := by
    rw [idx_map _ _ 0 hi, show (parts.toList.map fun x => a.eval x.2) = vs by rw [ha]; exact hp]
    unfold litCells
    generalize (if m * 1 = 0 then #[] else z.cells) = zz
    have h := fill_idx vs [] ((List.range (m * 1)).map (zz[· % zz.size]!)) h1 (by simp [hvs])
    simp only [List.nil_append, List.length_nil] at h
    have hr : ((List.range (m * 1)).map (zz[· % zz.size]!)).toArray = (Array.range (m * 1)).map (zz[· % zz.size]!) := by
      apply Array.ext'
      simp
    rw [hr] at h
    exact h
  refine wpl hw (v := .slice (some ⟨w.heap.size, 0, none⟩) m m) (w' := w.alloc (.cells vs.toArray e)) ?_ ⟨_, rfl, k _ _ ?_⟩
  · unfold litCells at hc
    have hl2 : ¬ 16777216 < m * 1 := by omega
    by_cases h0 : m * 1 = 0
    · rw [if_pos h0] at hc
      simp at h0
      subst h0
      simp at hc
      simp [execOp, ho, Instr.buildSlice, run_underlying ht, hs, hc, newRow]
    · simp only [h0, if_false] at hc
      simp at h0 hl2 hc
      simp [execOp, ho, Instr.buildSlice, run_underlying ht, hs, h0, hl2, hz, hc, newRow]
  · refine hst.alloc _ _ rfl ?_
    exact ⟨by simp [hvs], .inr ⟨w.heap.size, m, vs.toArray, rfl, Nat.zero_le _, heap_alloc_new w _, Nat.le_refl _, by unfold maxLen; omega, by simp [hvs], by simp [← hvs]⟩⟩
theorem add0 (a : Addr) : a.add 0 = a := by
  obtain ⟨b, o, p⟩ := a
  unfold Addr.add
  split <;> simp_all
/-- The slice of an array variable. -/
theorem Y.sliceArr {e : TypeId} {len : Nat} (ht : P.underlying t = some (.array len e)) {size : Nat} (hs : ∀ w, (sizeOf e).run P w = .ok size w) {p : Addr} (hx : ev ρ x = .pointer (some p)) :
    Y P S ρ (.slice t x none none none) ty (.slice (some p) len len) := fun w _ o ho _ => by
  simp [execOp, ho, hx, Instr.sliceAt, Instr.sureAddr, Instr.sliceBounds, run_underlying ht, hs, add0]
theorem Y.addT {a b : ByteArray} (hx : ev ρ x = .string a) (hy : ev ρ y = .string b) (h : a.size + b.size ≤ 9223372036854775807) : Y P S ρ (.binOp .add t x y t') ty (.string (a ++ b)) := fun w _ o ho _ => by
  have he : ∀ w, (eqGuard .add t x y (.string a) (.string b)).run P w = .ok () w := fun w => by unfold eqGuard; simp
  simp only [execOp, ho, hx, hy]
  simp [he, binOp, Op.stringOp]
  omega
/-- A text of bytes. -/
theorem Y.str {src e dst : TypeId} (hs : P.underlying src = some (.slice e)) (he : P.underlying e = some (.int .u8)) (hd : P.underlying dst = some .string) {v : Value} (hx : ev ρ x = v) {l : List UInt8} {n : Nat} (h : Rds L G v n (bvs l)) (hn : n = l.length) : Y P (Ctx w0 F0 L G) ρ (.convert src dst x) ty (.string (str l)) := fun w hS o ho _ => by
  subst hn
  simp [execOp, ho, hx, run_str hs he (hS.sl h) hd]
end
end Go.Proofs.Ytkbkgpedpaodlaa.K
