/- The base of this seat's walks, anew: a byte of a text; structs of two numbers compared. -/
import Derived.Test.YtkbkgpedpaodlaaE5
import Derived.Laws.StructEq
set_option linter.unusedVariables false
set_option linter.unusedSimpArgs false
namespace Go.Proofs.Ytkbkgpedpaodlaa.K
open Go.RowKit

section
variable {P : Program} {n : Fr} {c : Code} {Q : Post} {ρ : Env} {w0 w : World} {F0 : List Nat} {L G : List Res} {S : World → Prop} {ty t t' : TypeId} {x y : Operand}
theorem Y.indexT (ht : P.underlying t = some .string) {l : List UInt8} {ki : IntKind} {i : Int} {k : Nat} (hx : ev ρ x = .string (K.str l)) (hy : ev ρ y = .int ki i) (hi : i = (k : Int)) (hk : k < l.length) : Y P S ρ (.index t x y) ty (.int .u8 ((l.getD k 0).toNat : Int)) := fun w _ o ho _ => by
  subst hi
  have h1 : (K.str l)[k]? = some (l.getD k 0) := by
    have h2 : k < (K.str l).size := hk
    rw [getElem?_pos (K.str l) k h2]
    congr 1
    show (K.str l).data[k] = _
    simp [K.str, hk]
  simp [execOp, ho, hx, hy, Instr.index, asIntOf, run_underlying ht, h1]
/-- Two numbers, compared at once. -/
theorem run_eq2 {f0 f1 : Field} (ht : P.underlying t = some (.struct #[f0, f1])) (hp : P.stoodInHeld t = false) (h0 : f0.name ≠ "_") (h1 : f1.name ≠ "_") (o0 : f0.offset = 0) (o1 : f1.offset = 1)
    (i0 : P.underlying f0.type = some (.int .i64)) (i1 : P.underlying f1.type = some (.int .i64)) (s0 : ∀ w, (sizeOf f0.type).run P w = .ok 1 w) (s1 : ∀ w, (sizeOf f1.type).run P w = .ok 1 w) (a0 : ∀ w, (isAgg f0.type).run P w = .ok false w) (a1 : ∀ w, (isAgg f1.type).run P w = .ok false w) (a b c d : Int) (w : World) :
    (Op.equalIn 10000 t (.agg #[.int .i64 a, .int .i64 b]) (.agg #[.int .i64 c, .int .i64 d])).run P w = .ok (decide (a = c ∧ b = d)) w := by
  have hf : P.fieldsOf t = #[f0, f1] := by simp [Program.fieldsOf, ht]
  rw [run_equalIn_struct w 9999 t _ _ (by rw [hf]; exact ht) hp, hf]
  simp only [Op.eqFields, h0, h1, ne_eq, not_false_eq_true, if_true, Sem.run_bind]
  rw [o0, o1]
  have p0 : ∀ (u v : Value) w, u.cells = #[u] → (part f0.type #[u, v] 0).run P w = .ok u w := fun u v w hu => by
    simp [part, s0, a0]
  have p1 : ∀ (u v : Value) w, u.cells = #[u] → (part f1.type #[u, v] 1).run P w = .ok v w := fun u v w hu => by
    simp [part, s1, a1]
  rw [p0 _ _ _ rfl]
  simp only [Result.andThen_ok]
  rw [p0 _ _ _ rfl]
  simp only [Result.andThen_ok]
  rw [run_equalIn_int w 9998 f0.type .i64 .i64 a c i0]
  simp only [Result.andThen_ok]
  by_cases hac : a = c
  · subst hac
    simp only [beq_self_eq_true, Bool.not_true, Bool.false_eq_true, if_false]
    rw [Sem.run_bind, p1 _ _ _ rfl]
    simp only [Result.andThen_ok]
    rw [Sem.run_bind, p1 _ _ _ rfl]
    simp only [Result.andThen_ok]
    rw [Sem.run_bind, run_equalIn_int w 9998 f1.type .i64 .i64 b d i1]
    simp only [Result.andThen_ok]
    by_cases hbd : b = d
    · subst hbd; simp
    · simp [hbd]
  · simp [hac]
theorem Y.eq2 (hg : P.eqGuardType P.depth t = false) (he : ∀ (a b c d : Int) (w : World), (Op.equalIn 10000 t (.agg #[.int .i64 a, .int .i64 b]) (.agg #[.int .i64 c, .int .i64 d])).run P w = .ok (decide (a = c ∧ b = d)) w)
    {a b c d : Int} (hx : ev ρ x = .agg #[.int .i64 a, .int .i64 b]) (hy : ev ρ y = .agg #[.int .i64 c, .int .i64 d]) : Y P S ρ (.binOp .eql t x y t') ty (.bool (decide (a = c ∧ b = d))) := fun w _ o ho _ => by
  have h1 := run_eqGuard_agg (P := P) w .eql t x y #[.int .i64 a, .int .i64 b] #[.int .i64 c, .int .i64 d] hg
  have h2 := run_eql_struct (P := P) w t #[.int .i64 a, .int .i64 b] #[.int .i64 c, .int .i64 d]
  rw [he] at h2
  simp only [execOp, ho, hx, hy]
  rw [Sem.run_bind, Sem.run_bind, h1]
  simp only [Result.andThen_ok]
  rw [h2]
  simp
theorem Y.ne2 (hg : P.eqGuardType P.depth t = false) (he : ∀ (a b c d : Int) (w : World), (Op.equalIn 10000 t (.agg #[.int .i64 a, .int .i64 b]) (.agg #[.int .i64 c, .int .i64 d])).run P w = .ok (decide (a = c ∧ b = d)) w)
    {a b c d : Int} (hx : ev ρ x = .agg #[.int .i64 a, .int .i64 b]) (hy : ev ρ y = .agg #[.int .i64 c, .int .i64 d]) : Y P S ρ (.binOp .neq t x y t') ty (.bool (decide (¬ (a = c ∧ b = d)))) := fun w _ o ho _ => by
  have h1 := run_eqGuard_agg (P := P) w .neq t x y #[.int .i64 a, .int .i64 b] #[.int .i64 c, .int .i64 d] hg
  have h2 := run_neq_struct (P := P) w t #[.int .i64 a, .int .i64 b] #[.int .i64 c, .int .i64 d]
  rw [he] at h2
  have e : (!decide (a = c ∧ b = d)) = decide (¬ (a = c ∧ b = d)) := by by_cases h : a = c ∧ b = d <;> simp [h]
  rw [← e]
  simp only [execOp, ho, hx, hy]
  rw [Sem.run_bind, Sem.run_bind, h1]
  simp only [Result.andThen_ok]
  rw [h2]
  simp
end
end Go.Proofs.Ytkbkgpedpaodlaa.K
