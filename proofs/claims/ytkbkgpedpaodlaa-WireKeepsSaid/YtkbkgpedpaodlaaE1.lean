/- The base of this seat's walks, anew: what each operation gives. -/
import Derived.Test.YtkbkgpedpaodlaaE0
set_option linter.unusedVariables false
set_option linter.unusedSimpArgs false
namespace Go.Proofs.Ytkbkgpedpaodlaa.K
open Go.RowKit

section
variable {P : Program} {n : Fr} {c : Code} {Q : Post} {ρ : Env} {w0 w : World} {F0 : List Nat} {L G : List Res} {S : World → Prop} {ty t t' : TypeId} {x y : Operand}

def Any : World → Prop := fun _ => True
theorem any (w : World) : Any w := trivial
theorem St.ctx (h : St w0 F0 w L G) : Ctx w0 F0 L G w := ⟨[], [], h⟩
theorem St.ctx1 {a : Res} (h : St w0 F0 w (a :: L) G) : Ctx w0 F0 L G w := ⟨[a], [], h⟩
theorem St.ctx2 {a b : Res} (h : St w0 F0 w (a :: b :: L) G) : Ctx w0 F0 L G w := ⟨[a, b], [], h⟩
theorem St.ctx3 {a b c : Res} (h : St w0 F0 w (a :: b :: c :: L) G) : Ctx w0 F0 L G w := ⟨[a, b, c], [], h⟩
theorem St.ctx4 {a b c d : Res} (h : St w0 F0 w (a :: b :: c :: d :: L) G) : Ctx w0 F0 L G w := ⟨[a, b, c, d], [], h⟩
theorem St.ctx5 {a b c d e : Res} (h : St w0 F0 w (a :: b :: c :: d :: e :: L) G) : Ctx w0 F0 L G w := ⟨[a, b, c, d, e], [], h⟩
theorem St.ctx6 {a b c d e f : Res} (h : St w0 F0 w (a :: b :: c :: d :: e :: f :: L) G) : Ctx w0 F0 L G w := ⟨[a, b, c, d, e, f], [], h⟩
theorem Ctx.sl {w0 w : World} (h : Ctx w0 F0 L G w) {v : Value} {n : Nat} {xs : List Value} (hr : Rds L G v n xs) : Sl w v n xs := by
  obtain ⟨L', G', hst⟩ := h
  have h2 : Rds (L' ++ L) (G' ++ G) v n xs := hr.mono (fun r hr => .inl (List.mem_append.2 (.inr hr))) (fun r hr => List.mem_append.2 (.inr hr))
  exact h2.sl hst

/-- A quiet operation whose value is a Bool that is named. -/
theorem Ops.yb {i : Nat} {d : Nat} {op : Op} {ps : String} {af : Array Edge} {gd : Option (Nat × Bool)} {p : Bool} (ho : opat c i = some ⟨some d, op, ty, ps, af, gd⟩) (hw : wants c ρ gd = true) (hd : okD n (some d) = true)
    (hS : S w) (hy : Y P S ρ op ty (.bool p)) (k : ∀ b, b = p → Ops P n c Q (i + 1) (upd ρ d (.bool b)) w) : Ops P n c Q i ρ w := Ops.y ho hw hd hS hy (k p rfl)
theorem Drw.yb {S : World → Prop} {T : List Nat} {i : Nat} {r : Tr} {d : Nat} {op : Op} {ps : String} {af : Array Edge} {gd : Option (Nat × Bool)} {p : Bool} (ho : opat c i = some ⟨some d, op, ty, ps, af, gd⟩) (hw : wants c ρ gd = true) (hd : okD n (some d) = true)
    (hS : S w) (hy : Y P S ρ op ty (.bool p)) (k : ∀ b, b = p → Drw P n c Q S T r (upd ρ d (.bool b)) w) : Drw P n c Q S T (.op i 0 r) ρ w := Drw.y ho hw hd hS hy (k p rfl)
/-- A quiet operation whose value is an int that is named. -/
theorem Ops.yi {i : Nat} {d : Nat} {op : Op} {ps : String} {af : Array Edge} {gd : Option (Nat × Bool)} {ki : IntKind} {p : Int} (ho : opat c i = some ⟨some d, op, ty, ps, af, gd⟩) (hw : wants c ρ gd = true) (hd : okD n (some d) = true)
    (hS : S w) (hy : Y P S ρ op ty (.int ki p)) (k : ∀ b, b = p → Ops P n c Q (i + 1) (upd ρ d (.int ki b)) w) : Ops P n c Q i ρ w := Ops.y ho hw hd hS hy (k p rfl)
theorem Drw.yi {S : World → Prop} {T : List Nat} {i : Nat} {r : Tr} {d : Nat} {op : Op} {ps : String} {af : Array Edge} {gd : Option (Nat × Bool)} {ki : IntKind} {p : Int} (ho : opat c i = some ⟨some d, op, ty, ps, af, gd⟩) (hw : wants c ρ gd = true) (hd : okD n (some d) = true)
    (hS : S w) (hy : Y P S ρ op ty (.int ki p)) (k : ∀ b, b = p → Drw P n c Q S T r (upd ρ d (.int ki b)) w) : Drw P n c Q S T (.op i 0 r) ρ w := Drw.y ho hw hd hS hy (k p rfl)

theorem Y.cast {op : Op} {v v' : Value} (h : Y P S ρ op ty v) (e : v = v') : Y P S ρ op ty v' := e ▸ h
theorem ptr_eq {b i j : Nat} (h : i = j) : Value.pointer (some ⟨b, i, none⟩) = .pointer (some ⟨b, j, none⟩) := by rw [h]
/-! ### Moves -/
theorem Y.mv : Y P S ρ (.move x) ty (ev ρ x) := fun w _ o ho _ => by simp [execOp, ho]
theorem Y.as : Y P S ρ (.assign x) ty (ev ρ x) := fun w _ o ho _ => by simp [execOp, ho]
theorem Y.moveI {k : IntKind} {m : Int} (hx : ev ρ x = .int k m) : Y P S ρ (.move x) ty (.int k m) := hx ▸ Y.mv
theorem Y.moveB {b : Bool} (hx : ev ρ x = .bool b) : Y P S ρ (.move x) ty (.bool b) := hx ▸ Y.mv
theorem Y.moveP {b : Option Addr} (hx : ev ρ x = .pointer b) : Y P S ρ (.move x) ty (.pointer b) := hx ▸ Y.mv
theorem Y.moveS {a : Option Addr} {l c : Nat} (hx : ev ρ x = .slice a l c) : Y P S ρ (.move x) ty (.slice a l c) := hx ▸ Y.mv
theorem Y.moveT {s : ByteArray} (hx : ev ρ x = .string s) : Y P S ρ (.move x) ty (.string s) := hx ▸ Y.mv
theorem Y.moveA {vs : Array Value} (hx : ev ρ x = .agg vs) : Y P S ρ (.move x) ty (.agg vs) := hx ▸ Y.mv
theorem Y.moveU {vs : Array Value} (hx : ev ρ x = .tuple vs) : Y P S ρ (.move x) ty (.tuple vs) := hx ▸ Y.mv
theorem Y.assignI {k : IntKind} {m : Int} (hx : ev ρ x = .int k m) : Y P S ρ (.assign x) ty (.int k m) := hx ▸ Y.as
theorem Y.assignB {b : Bool} (hx : ev ρ x = .bool b) : Y P S ρ (.assign x) ty (.bool b) := hx ▸ Y.as
theorem Y.assignP {b : Option Addr} (hx : ev ρ x = .pointer b) : Y P S ρ (.assign x) ty (.pointer b) := hx ▸ Y.as
theorem Y.assignS {a : Option Addr} {l c : Nat} (hx : ev ρ x = .slice a l c) : Y P S ρ (.assign x) ty (.slice a l c) := hx ▸ Y.as
theorem Y.assignT {s : ByteArray} (hx : ev ρ x = .string s) : Y P S ρ (.assign x) ty (.string s) := hx ▸ Y.as
theorem Y.assignA {vs : Array Value} (hx : ev ρ x = .agg vs) : Y P S ρ (.assign x) ty (.agg vs) := hx ▸ Y.as
theorem Y.moveV {v : Value} (hx : ev ρ x = v) : Y P S ρ (.move x) ty v := hx ▸ Y.mv
theorem Y.assignV {v : Value} (hx : ev ρ x = v) : Y P S ρ (.assign x) ty v := hx ▸ Y.as
theorem Y.extract {vs : List Value} {i : Nat} {v : Value} (hx : ev ρ x = .tuple vs.toArray) (hv : vs[i]? = some v) : Y P S ρ (.extract x i) ty v := fun w _ o ho _ => by
  simp [execOp, ho, hx, Instr.extract, hv]
theorem Y.pick {b : Bool} {z : Operand} (v : Value) (hx : ev ρ x = .bool b) (hv : (match b with | true => ev ρ y | false => ev ρ z) = v) : Y P S ρ (.pick x y z) ty v := fun w _ o ho _ => by
  subst hv
  cases b <;> simp [execOp, ho, hx, asBool]

/-! ### Numbers -/
theorem Y.int2 {op : BinOp} {k : IntKind} {m m' : Int} {v : Value} (hx : ev ρ x = .int k m) (hy : ev ρ y = .int k m') (hr : ∀ w, (Go.binOp op t (.int k m) (.int k m')).run P w = .ok v w) : Y P S ρ (.binOp op t x y t') ty v := fun w _ o ho _ => by
  have he : ∀ w, (eqGuard op t x y (.int k m) (.int k m')).run P w = .ok () w := fun w => by unfold eqGuard; split <;> simp
  simp only [execOp, ho, hx, hy]
  simp [he, hr]
theorem Y.addI {m m' : Int} (hx : ev ρ x = .int .i64 m) (hy : ev ρ y = .int .i64 m') (hb : -9223372036854775808 ≤ m + m' ∧ m + m' ≤ 9223372036854775807) : Y P S ρ (.binOp .add t x y t') ty (.int .i64 (m + m')) :=
  Y.int2 hx hy fun w => by simp [binOp, Op.intArith, IntWalk.i64_in _ hb]
theorem Y.subI {m m' : Int} (hx : ev ρ x = .int .i64 m) (hy : ev ρ y = .int .i64 m') (hb : -9223372036854775808 ≤ m - m' ∧ m - m' ≤ 9223372036854775807) : Y P S ρ (.binOp .sub t x y t') ty (.int .i64 (m - m')) :=
  Y.int2 hx hy fun w => by simp [binOp, Op.intArith, IntWalk.i64_in _ hb]
theorem Y.mulI {m m' : Int} (hx : ev ρ x = .int .i64 m) (hy : ev ρ y = .int .i64 m') (hb : -9223372036854775808 ≤ m * m' ∧ m * m' ≤ 9223372036854775807) : Y P S ρ (.binOp .mul t x y t') ty (.int .i64 (m * m')) :=
  Y.int2 hx hy fun w => by simp [binOp, Op.intArith, IntWalk.i64_in _ hb]
theorem Y.add {k : IntKind} {m m' : Int} (hx : ev ρ x = .int k m) (hy : ev ρ y = .int k m') : Y P S ρ (.binOp .add t x y t') ty (.int k (k.wrap (m + m'))) :=
  Y.int2 hx hy fun w => by simp [binOp, Op.intArith]
theorem Y.sub {k : IntKind} {m m' : Int} (hx : ev ρ x = .int k m) (hy : ev ρ y = .int k m') : Y P S ρ (.binOp .sub t x y t') ty (.int k (k.wrap (m - m'))) :=
  Y.int2 hx hy fun w => by simp [binOp, Op.intArith]
theorem Y.mul {k : IntKind} {m m' : Int} (hx : ev ρ x = .int k m) (hy : ev ρ y = .int k m') : Y P S ρ (.binOp .mul t x y t') ty (.int k (k.wrap (m * m'))) :=
  Y.int2 hx hy fun w => by simp [binOp, Op.intArith]
theorem Y.quo {k : IntKind} {m m' : Int} (hx : ev ρ x = .int k m) (hy : ev ρ y = .int k m') (h0 : m' ≠ 0) : Y P S ρ (.binOp .quo t x y t') ty (.int k (k.wrap (m.tdiv m'))) :=
  Y.int2 hx hy fun w => by simp [binOp, Op.intDiv, h0]
theorem Y.rem {k : IntKind} {m m' : Int} (hx : ev ρ x = .int k m) (hy : ev ρ y = .int k m') (h0 : m' ≠ 0) : Y P S ρ (.binOp .rem t x y t') ty (.int k (m.tmod m')) :=
  Y.int2 hx hy fun w => by simp [binOp, Op.intDiv, h0]
theorem Y.quoI {m m' : Int} (hx : ev ρ x = .int .i64 m) (hy : ev ρ y = .int .i64 m') (h0 : 0 ≤ m ∧ m ≤ 9223372036854775807 ∧ 1 ≤ m') : Y P S ρ (.binOp .quo t x y t') ty (.int .i64 (m / m')) := by
  have := Y.quo (P := P) (S := S) (t := t) (t' := t') (ty := ty) hx hy (by omega)
  rwa [IntWalk.i64_quo _ _ h0] at this
theorem Y.remI {k : IntKind} {m m' : Int} (hx : ev ρ x = .int k m) (hy : ev ρ y = .int k m') (h0 : 0 ≤ m ∧ 1 ≤ m') : Y P S ρ (.binOp .rem t x y t') ty (.int k (m % m')) := by
  have := Y.rem (P := P) (S := S) (t := t) (t' := t') (ty := ty) hx hy (by omega)
  rwa [IntWalk.rem_in _ _ h0.1] at this
theorem Y.lss {k : IntKind} {m m' : Int} (hx : ev ρ x = .int k m) (hy : ev ρ y = .int k m') : Y P S ρ (.binOp .lss t x y t') ty (.bool (decide (m < m'))) := Y.int2 hx hy fun w => by simp [binOp, Op.intCmp]
theorem Y.leq {k : IntKind} {m m' : Int} (hx : ev ρ x = .int k m) (hy : ev ρ y = .int k m') : Y P S ρ (.binOp .leq t x y t') ty (.bool (decide (m ≤ m'))) := Y.int2 hx hy fun w => by simp [binOp, Op.intCmp]
theorem Y.gtr {k : IntKind} {m m' : Int} (hx : ev ρ x = .int k m) (hy : ev ρ y = .int k m') : Y P S ρ (.binOp .gtr t x y t') ty (.bool (decide (m > m'))) := Y.int2 hx hy fun w => by simp [binOp, Op.intCmp]
theorem Y.geq {k : IntKind} {m m' : Int} (hx : ev ρ x = .int k m) (hy : ev ρ y = .int k m') : Y P S ρ (.binOp .geq t x y t') ty (.bool (decide (m ≥ m'))) := Y.int2 hx hy fun w => by simp [binOp, Op.intCmp]
theorem Y.eql {k : IntKind} {m m' : Int} (hx : ev ρ x = .int k m) (hy : ev ρ y = .int k m') : Y P S ρ (.binOp .eql t x y t') ty (.bool (decide (m = m'))) := Y.int2 hx hy fun w => by simp [binOp, Op.intCmp]; rfl
theorem Y.neq {k : IntKind} {m m' : Int} (hx : ev ρ x = .int k m) (hy : ev ρ y = .int k m') : Y P S ρ (.binOp .neq t x y t') ty (.bool (decide (m ≠ m'))) := Y.int2 hx hy fun w => by
  have : (m != m') = decide (m ≠ m') := by by_cases h : m = m' <;> simp [h]
  simp [binOp, Op.intCmp, this]
theorem Y.bits {op : BinOp} {k : IntKind} {m m' r : Int} (hx : ev ρ x = .int k m) (hy : ev ρ y = .int k m') (hop : (match op with | .and | .or | .xor | .andNot => true | _ => false) = true) (hr : ∀ w, (Op.intBits op k m m').run P w = .ok (.int k r) w) : Y P S ρ (.binOp op t x y t') ty (.int k r) :=
  Y.int2 hx hy fun w => by cases op <;> first | (exfalso; revert hop; decide) | simp [binOp, hr]
theorem Y.and {k : IntKind} {m m' : Int} (hx : ev ρ x = .int k m) (hy : ev ρ y = .int k m') : Y P S ρ (.binOp .and t x y t') ty (.int k (k.wrap (BitVec.ofInt k.bits m &&& BitVec.ofInt k.bits m').toNat)) := Y.bits hx hy rfl fun w => by simp [Op.intBits]
theorem Y.or {k : IntKind} {m m' : Int} (hx : ev ρ x = .int k m) (hy : ev ρ y = .int k m') : Y P S ρ (.binOp .or t x y t') ty (.int k (k.wrap (BitVec.ofInt k.bits m ||| BitVec.ofInt k.bits m').toNat)) := Y.bits hx hy rfl fun w => by simp [Op.intBits]
theorem Y.xor {k : IntKind} {m m' : Int} (hx : ev ρ x = .int k m) (hy : ev ρ y = .int k m') : Y P S ρ (.binOp .xor t x y t') ty (.int k (k.wrap (BitVec.ofInt k.bits m ^^^ BitVec.ofInt k.bits m').toNat)) := Y.bits hx hy rfl fun w => by simp [Op.intBits]
theorem Y.shl {k k' : IntKind} {m m' : Int} (hx : ev ρ x = .int k m) (hy : ev ρ y = .int k' m') (h0 : 0 ≤ m') : Y P S ρ (.binOp .shl t x y t') ty (.int k (k.wrap (m * 2 ^ (min m'.toNat k.bits)))) := fun w _ o ho _ => by
  have he : ∀ w, (eqGuard .shl t x y (.int k m) (.int k' m')).run P w = .ok () w := fun w => by unfold eqGuard; simp
  have h1 : ¬ m' < 0 := by omega
  simp only [execOp, ho, hx, hy]
  simp [he, binOp, Op.shift, h1]
theorem Y.shr {k k' : IntKind} {m m' : Int} (hx : ev ρ x = .int k m) (hy : ev ρ y = .int k' m') (h0 : 0 ≤ m') : Y P S ρ (.binOp .shr t x y t') ty (.int k (m.fdiv (2 ^ (min m'.toNat k.bits)))) := fun w _ o ho _ => by
  have he : ∀ w, (eqGuard .shr t x y (.int k m) (.int k' m')).run P w = .ok () w := fun w => by unfold eqGuard; simp
  have h1 : ¬ m' < 0 := by omega
  simp only [execOp, ho, hx, hy]
  simp [he, binOp, Op.shift, h1]
theorem Y.conv {k k' : IntKind} {m : Int} (ht : P.underlying t' = some (.int k')) {d : TypeDesc} (hs : P.underlying t = some d) (hx : ev ρ x = .int k m) : Y P S ρ (.convert t t' x) ty (.int k' (k'.wrap m)) := fun w _ o ho _ => by
  simp [execOp, ho, hx, convert, run_underlying ht, run_underlying hs, Conv.intToInt]
theorem Y.not {b : Bool} (hx : ev ρ x = .bool b) : Y P S ρ (.unOp .not t x) ty (.bool (match b with | true => false | false => true)) := fun w _ o ho _ => by
  cases b <;> simp [execOp, ho, hx, Op.unary]
theorem Y.negI {m : Int} (hx : ev ρ x = .int .i64 m) (hb : -9223372036854775808 ≤ - m ∧ - m ≤ 9223372036854775807) : Y P S ρ (.unOp .neg t x) ty (.int .i64 (- m)) := fun w _ o ho _ => by
  have : IntKind.i64.wrap (0 - m) = - m := by rw [IntWalk.i64_in _ (by omega)]; omega
  simp [execOp, ho, hx, Op.unary, Op.intArith]
  simpa using this

/-! ### Comparisons of others -/
theorem equalIn_bool (d : Nat) (ht : P.underlying t = some .bool) (a b : Bool) (w : World) : (Op.equalIn (d + 1) t (.bool a) (.bool b)).run P w = .ok (a == b) w := by
  rw [Op.equalIn]; simp [run_underlying ht]
theorem Y.eqB {a b : Bool} (ht : P.underlying t = some .bool) (hx : ev ρ x = .bool a) (hy : ev ρ y = .bool b) : Y P S ρ (.binOp .eql t x y t') ty (.bool (decide (a = b))) := fun w _ o ho _ => by
  have he : ∀ w, (eqGuard .eql t x y (.bool a) (.bool b)).run P w = .ok () w := fun w => by unfold eqGuard; simp
  have h2 : (Op.equal t (.bool a) (.bool b)).run P w = .ok (a == b) w := equalIn_bool 9999 ht a b w
  have h3 : (Go.binOp .eql t (.bool a) (.bool b)).run P w = .ok (.bool (decide (a = b))) w := by
    have : (a == b) = decide (a = b) := by cases a <;> cases b <;> rfl
    unfold binOp; simp only [Sem.run_bind, h2, Result.andThen_ok]; simp [this]
  simp only [execOp, ho, hx, hy]
  simp [he, h3]
theorem Y.neB {a b : Bool} (ht : P.underlying t = some .bool) (hx : ev ρ x = .bool a) (hy : ev ρ y = .bool b) : Y P S ρ (.binOp .neq t x y t') ty (.bool (decide (a ≠ b))) := fun w _ o ho _ => by
  have he : ∀ w, (eqGuard .neq t x y (.bool a) (.bool b)).run P w = .ok () w := fun w => by unfold eqGuard; simp
  have h2 : (Op.equal t (.bool a) (.bool b)).run P w = .ok (a == b) w := equalIn_bool 9999 ht a b w
  have h3 : (Go.binOp .neq t (.bool a) (.bool b)).run P w = .ok (.bool (decide (a ≠ b))) w := by
    have : (!(a == b)) = decide (a ≠ b) := by cases a <;> cases b <;> rfl
    unfold binOp; simp only [Sem.run_bind, h2, Result.andThen_ok]; simp only [this]; rfl
  simp only [execOp, ho, hx, hy]
  simp [he, h3]

theorem toList_dec (a b : ByteArray) : (a.toList == b.toList) = decide (a = b) := by
  rw [Bool.eq_iff_iff, beq_iff_eq, decide_eq_true_eq, ByteArray.toList_eq, ByteArray.toList_eq]
  constructor
  · intro h
    cases a; cases b
    congr 1
    exact Array.ext' h
  · rintro rfl; rfl
theorem Y.eqT {a b : ByteArray} (hx : ev ρ x = .string a) (hy : ev ρ y = .string b) : Y P S ρ (.binOp .eql t x y t') ty (.bool (decide (a = b))) := fun w _ o ho _ => by
  have he : ∀ w, (eqGuard .eql t x y (.string a) (.string b)).run P w = .ok () w := fun w => by unfold eqGuard; simp
  simp only [execOp, ho, hx, hy]
  simp [he, binOp, Op.stringOp, toList_dec]
theorem Y.neT {a b : ByteArray} (hx : ev ρ x = .string a) (hy : ev ρ y = .string b) : Y P S ρ (.binOp .neq t x y t') ty (.bool (decide (a ≠ b))) := fun w _ o ho _ => by
  have he : ∀ w, (eqGuard .neq t x y (.string a) (.string b)).run P w = .ok () w := fun w => by unfold eqGuard; simp
  have h2 : (!(a.toList == b.toList)) = decide (a ≠ b) := by rw [toList_dec]; by_cases h : a = b <;> simp [h]
  simp only [execOp, ho, hx, hy]
  simp only [Sem.run_bind, he, Result.andThen_ok, binOp, Op.stringOp, h2, Sem.run_pure]

/-! ### Pointers -/
theorem Y.nilCheck {p : Addr} (hx : ev ρ x = .pointer (some p)) : Y P S ρ (.nilCheck x) ty (.pointer (some p)) := fun w _ o ho _ => by
  simp [execOp, ho, hx]
theorem Y.isNil {p : Option Addr} {e : TypeId} (ht : P.underlying t = some (.pointer e)) (hx : ev ρ x = .pointer p) (hy : ev ρ y = .pointer none) : Y P S ρ (.binOp .eql t x y t') ty (.bool (match p with | none => true | some _ => false)) := fun w _ o ho _ => by
  have he : ∀ w, (eqGuard .eql t x y (.pointer p) (.pointer none)).run P w = .ok () w := fun w => by unfold eqGuard; simp
  have h2 : (Op.equalIn (9999 + 1) t (.pointer p) (.pointer none)).run P w = .ok p.isNone w := by
    rw [Op.equalIn]; cases p <;> simp [run_underlying ht]
  have h3 : (Go.binOp .eql t (.pointer p) (.pointer none)).run P w = .ok (.bool p.isNone) w := by
    have h4 : (Op.equal t (.pointer p) (.pointer none)).run P w = .ok p.isNone w := h2
    unfold binOp; simp only [Sem.run_bind, h4, Result.andThen_ok]; rfl
  simp only [execOp, ho, hx, hy]
  cases p <;> simp [he, h3]
theorem Y.notNil {p : Option Addr} {e : TypeId} (ht : P.underlying t = some (.pointer e)) (hx : ev ρ x = .pointer p) (hy : ev ρ y = .pointer none) : Y P S ρ (.binOp .neq t x y t') ty (.bool (match p with | none => false | some _ => true)) := fun w _ o ho _ => by
  have he : ∀ w, (eqGuard .neq t x y (.pointer p) (.pointer none)).run P w = .ok () w := fun w => by unfold eqGuard; simp
  have h2 : (Op.equalIn (9999 + 1) t (.pointer p) (.pointer none)).run P w = .ok p.isNone w := by
    rw [Op.equalIn]; cases p <;> simp [run_underlying ht]
  have h3 : (Go.binOp .neq t (.pointer p) (.pointer none)).run P w = .ok (.bool (!p.isNone)) w := by
    have h4 : (Op.equal t (.pointer p) (.pointer none)).run P w = .ok p.isNone w := h2
    unfold binOp; simp only [Sem.run_bind, h4, Result.andThen_ok]; rfl
  simp only [execOp, ho, hx, hy]
  cases p <;> simp [he, h3]

/-! ### Lengths -/
theorem Y.lenS {e : TypeId} (ht : P.underlying t = some (.slice e)) {a : Option Addr} {l cp : Nat} (hx : ev ρ x = .slice a l cp) : Y P S ρ (.call { callee := .builtin .len, args := #[x], argTypes := #[t] }) ty (.int .i64 l) := fun w _ o ho _ => by
  simp [execOp, ho, resolve, invoke, builtin, hx, Builtin.len_, Builtin.lenOf, goInt, run_underlying ht]
theorem Y.lenT (ht : P.underlying t = some .string) {s : ByteArray} (hx : ev ρ x = .string s) : Y P S ρ (.call { callee := .builtin .len, args := #[x], argTypes := #[t] }) ty (.int .i64 s.size) := fun w _ o ho _ => by
  simp [execOp, ho, resolve, invoke, builtin, hx, Builtin.len_, Builtin.lenOf, goInt, run_underlying ht]

/-! ### Places -/
/-- Where a field lies. -/
theorem Y.fieldAddr {s f off : Nat} (hf : ∀ (a : Addr) (w : World), (Instr.fieldAt s (.pointer (some a)) f).run P w = .ok (.pointer (some (a.add off))) w) {b i : Nat} (hx : ev ρ x = .pointer (some ⟨b, i, none⟩)) : Y P S ρ (.fieldAddr s x f) ty (.pointer (some ⟨b, i + off, none⟩)) := fun w _ o ho _ => by
  simp [execOp, ho, hx, hf, add_lit']
theorem Y.fieldAddrP {s f off : Nat} (hf : ∀ (a : Addr) (w : World), (Instr.fieldAt s (.pointer (some a)) f).run P w = .ok (.pointer (some (a.add off))) w) {p : Addr} (hx : ev ρ x = .pointer (some p)) : Y P S ρ (.fieldAddr s x f) ty (.pointer (some (p.add off))) := fun w _ o ho _ => by
  simp [execOp, ho, hx, hf]
/-- The place of an element of a slice. -/
def elt (A : Option Addr) (i : Int) (size : Nat) : Addr := (A.getD ⟨0, 0, none⟩).add (i.toNat * size)
theorem Y.indexAddr {e : TypeId} (ht : P.underlying t = some (.slice e)) {size : Nat} (hs : ∀ w, (sizeOf e).run P w = .ok size w) {A : Option Addr} {l cp : Nat} (hx : ev ρ x = .slice A l cp) {ki : IntKind} {i : Int} (hi : ev ρ y = .int ki i) (hA : A ≠ none) (h0 : 0 ≤ i ∧ i < l) :
    Y P S ρ (.indexAddr t x y) ty (.pointer (some (elt A i size))) := fun w _ o ho _ => by
  cases A with
  | none => exact absurd rfl hA
  | some ad => simp [execOp, ho, Instr.indexAt, hx, hi, asIntOf, run_underlying ht, hs, h0.1, h0.2, elt]
/-- The place of an element of an array. -/
theorem Y.indexAddrA {e : TypeId} {len : Nat} (ht : P.underlying t = some (.array len e)) {size : Nat} (hs : ∀ w, (sizeOf e).run P w = .ok size w) {b j : Nat} (hx : ev ρ x = .pointer (some ⟨b, j, none⟩)) {ki : IntKind} {i : Int} (hi : ev ρ y = .int ki i) (h0 : 0 ≤ i ∧ i < len) :
    Y P S ρ (.indexAddr t x y) ty (.pointer (some ⟨b, j + i.toNat * size, none⟩)) := fun w _ o ho _ => by
  simp [execOp, ho, Instr.indexAt, Instr.sureAddr, hx, hi, asIntOf, run_underlying ht, hs, h0.1, h0.2, add_lit']

/-! ### Loads -/
theorem Y.loadAt {ad : Addr} (hx : ev ρ x = .pointer (some ad)) {v : Value} (hr : ∀ w, S w → (loadVar t ad).run P w = .ok v w) : Y P S ρ (.load t x) ty v := fun w hS o ho _ => by
  simp [execOp, ho, Instr.loadAt, Instr.sureAddr, hx, hr w hS]
theorem Y.load (j : Nat) (hag : ∀ w, (isAgg t).run P w = .ok false w) {b i : Nat} (hx : ev ρ x = .pointer (some ⟨b, i, none⟩)) {cs : List Value} {e : TypeId} (hL : L[j]? = some (cellsR b cs e)) {v : Value} (hc : cs[i]? = some v) : Y P (Ctx w0 F0 L G) ρ (.load t x) ty v :=
  Y.loadAt hx fun w hS => run_load_cell hag (by rw [hS.cell (.inl (List.mem_of_getElem? hL)) i, hc])
theorem Y.loadG (j : Nat) (hag : ∀ w, (isAgg t).run P w = .ok false w) {b i : Nat} (hx : ev ρ x = .pointer (some ⟨b, i, none⟩)) {cs : List Value} {e : TypeId} (hL : G[j]? = some (cellsR b cs e)) {v : Value} (hc : cs[i]? = some v) : Y P (Ctx w0 F0 L G) ρ (.load t x) ty v :=
  Y.loadAt hx fun w hS => run_load_cell hag (by rw [hS.cell (.inr (List.mem_of_getElem? hL)) i, hc])
/-- A struct of a block. -/
theorem Y.loadA (j : Nat) (hag : ∀ w, (isAgg t).run P w = .ok true w) {m : Nat} (hsz : ∀ w, (sizeOf t).run P w = .ok m w) {b i : Nat} (hx : ev ρ x = .pointer (some ⟨b, i, none⟩)) {cs : List Value} {e : TypeId} (hL : L[j]? = some (cellsR b cs e)) {vs : List Value} (hv : (cs.drop i).take m = vs) (hn : vs.length = m) : Y P (Ctx w0 F0 L G) ρ (.load t x) ty (.agg vs.toArray) :=
  Y.loadAt hx fun w hS => run_load_agg hag hsz hn (by
    intro j' v h
    subst hv
    rw [add_lit', hS.cell (.inl (List.mem_of_getElem? hL)) (i + j')]
    rw [List.getElem?_take] at h
    split at h
    · rw [List.getElem?_drop] at h; exact h
    · cases h)
/-- A cell of a slice that is read. -/
theorem Y.loadSl (hag : ∀ w, (isAgg t).run P w = .ok false w) {A : Option Addr} {i : Int} {size : Nat} (hx : ev ρ x = .pointer (some (elt A i size))) {l cp : Nat} {xs : List Value} (hr : Rds L G (.slice A l cp) l xs) {v : Value} (hc : xs[i.toNat * size]? = some v) : Y P (Ctx w0 F0 L G) ρ (.load t x) ty v :=
  Y.loadAt hx fun w hS => run_load_cell hag (by
    obtain ⟨A', cap, he, hcap, hA⟩ := hS.sl hr
    injection he with he; subst he
    have hk : i.toNat * size < xs.length := by rcases Nat.lt_or_ge (i.toNat * size) xs.length with h | h; exact h; rw [List.getElem?_eq_none h] at hc; cases hc
    obtain ⟨ad, rfl, hc'⟩ := hA (by intro h; rw [h] at hk; simp at hk)
    show w.cell? (ad.add _) = _
    rw [hc' _ hk, hc])
theorem add_add (a : Addr) (i j : Nat) : (a.add i).add j = a.add (i + j) := by
  unfold Addr.add
  by_cases q1 : i = 0 <;> by_cases q2 : j = 0 <;> simp [q1, q2, Nat.add_assoc]
/-- A field of an element of a slice that is read. -/
theorem Y.loadSlF (hag : ∀ w, (isAgg t).run P w = .ok false w) {A : Option Addr} {i : Int} {size off : Nat} (hx : ev ρ x = .pointer (some ((elt A i size).add off))) {l cp : Nat} {xs : List Value} (hr : Rds L G (.slice A l cp) l xs) {v : Value} (hc : xs[i.toNat * size + off]? = some v) : Y P (Ctx w0 F0 L G) ρ (.load t x) ty v :=
  Y.loadAt hx fun w hS => run_load_cell hag (by
    obtain ⟨A', cap, he, hcap, hA⟩ := hS.sl hr
    injection he with he; subst he
    have hk : i.toNat * size + off < xs.length := by rcases Nat.lt_or_ge (i.toNat * size + off) xs.length with h | h; exact h; rw [List.getElem?_eq_none h] at hc; cases hc
    obtain ⟨ad, rfl, hc'⟩ := hA (by intro h; rw [h] at hk; simp at hk)
    show w.cell? ((ad.add _).add _) = _
    rw [add_add, hc' _ hk, hc])
/-- A struct that is an element of a slice that is read. -/
theorem Y.loadSlA (hag : ∀ w, (isAgg t).run P w = .ok true w) {m : Nat} (hsz : ∀ w, (sizeOf t).run P w = .ok m w) {A : Option Addr} {i : Int} {size : Nat} (hx : ev ρ x = .pointer (some (elt A i size))) {l cp : Nat} {xs : List Value} (hr : Rds L G (.slice A l cp) l xs) {vs : List Value} (hv : (xs.drop (i.toNat * size)).take m = vs) (hn : vs.length = m) : Y P (Ctx w0 F0 L G) ρ (.load t x) ty (.agg vs.toArray) :=
  Y.loadAt hx fun w hS => run_load_agg hag hsz hn (by
    intro j' v h
    have hjl : j' < vs.length := by rcases Nat.lt_or_ge j' vs.length with h' | h'; exact h'; rw [List.getElem?_eq_none h'] at h; cases h
    subst hv
    obtain ⟨A', cap, he, hcap, hA⟩ := hS.sl hr
    injection he with he; subst he
    rw [List.getElem?_take] at h
    split at h
    · rw [List.getElem?_drop] at h
      have hk : i.toNat * size + j' < xs.length := by rcases Nat.lt_or_ge (i.toNat * size + j') xs.length with h' | h'; exact h'; rw [List.getElem?_eq_none h'] at h; cases h
      obtain ⟨ad, rfl, hc'⟩ := hA (by intro h; rw [h] at hk; simp at hk)
      show w.cell? ((ad.add _).add _) = _
      rw [add_add, hc' _ hk, h]
    · cases h)
/-- The world that stands. -/
def At (W : World) : World → Prop := fun w => w = W
theorem at_ (w : World) : At w w := rfl
theorem Y.loadSlW (hag : ∀ w, (isAgg t).run P w = .ok false w) {A : Option Addr} {i : Int} {size : Nat} (hx : ev ρ x = .pointer (some (elt A i size))) {l cp : Nat} {xs : List Value} (hr : Sl w (.slice A l cp) l xs) {v : Value} (hc : xs[i.toNat * size]? = some v) : Y P (At w) ρ (.load t x) ty v :=
  Y.loadAt hx fun w' hS => run_load_cell hag (by
    obtain rfl : w' = w := hS
    obtain ⟨A', cap, he, hcap, hA⟩ := hr
    injection he with he; subst he
    have hk : i.toNat * size < xs.length := by rcases Nat.lt_or_ge (i.toNat * size) xs.length with h | h; exact h; rw [List.getElem?_eq_none h] at hc; cases hc
    obtain ⟨ad, rfl, hc'⟩ := hA (by intro h; rw [h] at hk; simp at hk)
    show w'.cell? (ad.add _) = _
    rw [hc' _ hk, hc])
theorem Sl.ne {A : Option Addr} {l cp : Nat} {xs : List Value} (h : Sl w (.slice A l cp) l xs) (hx : 0 < xs.length) : A ≠ none := by
  obtain ⟨A', cap, he, _, hA⟩ := h
  injection he with he; subst he
  obtain ⟨ad, rfl, _⟩ := hA (by intro h; rw [h] at hx; simp at hx)
  simp
theorem Y.build {parts : Array (Nat × Operand)} {ps : List (Nat × Value)} {v : Value} (hp : (parts.toList.map fun x => (x.1, ev ρ x.2)) = ps) (hb : ∀ w, (Instr.build t ps.toArray).run P w = .ok v w) : Y P S ρ (.build t parts) ty v := fun w _ o ho _ => by
  have e : (parts.map fun x => (x.1, ev ρ x.2)) = ps.toArray := by subst hp; apply Array.ext'; simp
  simp [execOp, ho, e, hb]
theorem Rds.nilG {L G : List Res} (r : Res) : Rds L (r :: G) (.slice none 0 0) 0 [] := ⟨r, .inr (by simp), fun w _ => Sl.nil w⟩
/-- A field of a struct value. -/
theorem Y.field {s f : Nat} {cs : Array Value} {v : Value} (hx : ev ρ x = .agg cs) (hf : ∀ w, (Instr.field s (.agg cs) f).run P w = .ok v w) : Y P S ρ (.field s x f) ty v := fun w _ o ho _ => by
  simp [execOp, ho, hx, hf]

/-! ### What acts -/
theorem X.of {K : Value → World → Prop} {op : Op} (h : ∀ (a : Act) (ops : Array Oper) (Q : Exit → Act → World → Prop) (o : Oper), o.op = op → o.type = ty → a.eval = ev ρ → Region.wanted o (yielded ops a.tmps) = true →
    opK P ops Q o (fun a' w' => ∃ v, a' = a.put o.dst v ∧ K v w') a w) : X P ρ w op ty K := h
theorem X.box (hst : St w0 F0 w L G) {e : TypeId} {v : Value} (hx : ev ρ x = v) {cs : List Value} (hcs : v.cells.toList = cs) {K : Value → World → Prop} (k : ∀ b w', St w0 F0 w' (cellsR b cs e :: L) G → K (.pointer (some ⟨b, 0, none⟩)) w') : X P ρ w (.box e x) ty K := by
  subst hx; subst hcs
  intro a ops Q o ho _ ha hw
  refine r_box hst hw ho ?_
  intro b w' h
  rw [ha] at h
  exact ⟨_, rfl, k b w' h⟩
theorem X.alloc (hst : St w0 F0 w L G) {e : TypeId} {z : Value} (hz : ∀ w, (zeroValue e).run P w = .ok z w) {cs : List Value} (hcs : z.cells.toList = cs) {K : Value → World → Prop} (k : ∀ b w', St w0 F0 w' (cellsR b cs e :: L) G → K (.pointer (some ⟨b, 0, none⟩)) w') : X P ρ w (.alloc e) ty K := by
  subst hcs
  intro a ops Q o ho _ ha hw
  refine r_alloc hst hw ho hz ?_
  intro b w' h
  exact ⟨_, rfl, k b w' h⟩
theorem X.box1 (hst : St w0 F0 w L G) {e : TypeId} (v : Value) (hx : ev ρ x = v) (h1 : v.oneCell' = true) {K : Value → World → Prop} (k : ∀ b w', St w0 F0 w' (cellsR b [v] e :: L) G → K (.pointer (some ⟨b, 0, none⟩)) w') : X P ρ w (.box e x) ty K := X.box hst hx (by rw [cells_of_one h1]) k
theorem X.alloc1 (hst : St w0 F0 w L G) {e : TypeId} {z : Value} (hz : ∀ w, (zeroValue e).run P w = .ok z w) (h1 : z.oneCell' = true) {K : Value → World → Prop} (k : ∀ b w', St w0 F0 w' (cellsR b [z] e :: L) G → K (.pointer (some ⟨b, 0, none⟩)) w') : X P ρ w (.alloc e) ty K := X.alloc hst hz (by rw [cells_of_one h1]) k
theorem X.boxA (hst : St w0 F0 w L G) {e : TypeId} {vs : List Value} (hx : ev ρ x = .agg vs.toArray) {K : Value → World → Prop} (k : ∀ b w', St w0 F0 w' (cellsR b vs e :: L) G → K (.pointer (some ⟨b, 0, none⟩)) w') : X P ρ w (.box e x) ty K := X.box hst hx (by simp [Value.cells]) k
theorem X.allocA (hst : St w0 F0 w L G) {e : TypeId} {vs : List Value} (hz : ∀ w, (zeroValue e).run P w = .ok (.agg vs.toArray) w) {K : Value → World → Prop} (k : ∀ b w', St w0 F0 w' (cellsR b vs e :: L) G → K (.pointer (some ⟨b, 0, none⟩)) w') : X P ρ w (.alloc e) ty K := X.alloc hst hz (by simp [Value.cells]) k
theorem X.lits (hst : St w0 F0 w L G) {e : TypeId} {m : Nat} {parts : Array (Nat × Operand)} (ht : P.underlying t = some (.slice e)) (hs : ∀ w, (sizeOf e).run P w = .ok 1 w) {z : Value} (hz : ∀ w, (zeroValue e).run P w = .ok z w)
    (hi : (parts.toList.map (·.1) == List.range' 0 parts.toList.length) = true) (hn : parts.toList.length = m) (hl : Nat.ble m 16777216 = true)
    (vs : List Value) (hp : (parts.toList.map fun x => ev ρ x.2) = vs) (h1 : ones vs = true)
    {K : Value → World → Prop} (k : ∀ b w', St w0 F0 w' (cellsR b vs e :: L) G → K (.slice (some ⟨b, 0, none⟩) m m) w') : X P ρ w (.buildSlice t m parts) ty K := by
  intro a ops Q o ho _ ha hw
  refine r_litsF hst hw ho hi hn ht hs hz (Nat.le_of_ble_eq_true hl) (by rw [ha]; exact hp) h1 ?_
  intro b w' h
  exact ⟨_, rfl, k b w' h⟩
theorem X.store (hst : St w0 F0 w L G) (j : Nat) (hsz1 : ∀ w, (sizeOf t).run P w = .ok 1 w) {b i : Nat} (hx : ev ρ x = .pointer (some ⟨b, i, none⟩)) {cs : List Value} {e : TypeId} (hL : L[j]? = some (cellsR b cs e)) {v : Value} (hy : ev ρ y = v) (h1 : v.oneCell' = true) (hi : i < cs.length) {cs' : List Value} (hcs : cs.set i v = cs') {L' : List Res} (hL' : L.set j (cellsR b cs' e) = L')
    {K : Value → World → Prop} (k : ∀ w', St w0 F0 w' L' G → K undef w') : X P ρ w (.store t x y) ty K := by
  subst hcs; subst hL'
  intro a ops Q o ho _ ha hw
  refine r_storeAt hst j hw ho (by rw [ha]; exact hx) hL (by rw [ha]; exact hy) hsz1 h1 hi ?_
  intro w' h
  exact ⟨_, rfl, k w' h⟩
theorem X.storeV (hst : St w0 F0 w L G) (j : Nat) (v : Value) (hsz1 : ∀ w, (sizeOf t).run P w = .ok 1 w) {b i : Nat} (hx : ev ρ x = .pointer (some ⟨b, i, none⟩)) {cs : List Value} {e : TypeId} (hL : L[j]? = some (cellsR b cs e)) (hy : ev ρ y = v) (h1 : v.oneCell' = true) (hi : i < cs.length) {cs' : List Value} (hcs : cs.set i v = cs') {L' : List Res} (hL' : L.set j (cellsR b cs' e) = L')
    {K : Value → World → Prop} (k : ∀ w', St w0 F0 w' L' G → K undef w') : X P ρ w (.store t x y) ty K := X.store hst j hsz1 hx hL hy h1 hi hcs hL' k
/-- A store of a struct. -/
theorem X.storeS (hst : St w0 F0 w L G) (j : Nat) {m : Nat} (hsz : ∀ w, (sizeOf t).run P w = .ok m w) {b i : Nat} (hx : ev ρ x = .pointer (some ⟨b, i, none⟩)) {cs : List Value} {e : TypeId} (hL : L[j]? = some (cellsR b cs e)) {vs : List Value} (hy : ev ρ y = .agg vs.toArray) (hm : vs.length = m) (h1 : ones vs = true) (hi : i + m ≤ cs.length) {cs' : List Value} (hcs : splice cs i vs = cs') {L' : List Res} (hL' : L.set j (cellsR b cs' e) = L')
    {K : Value → World → Prop} (k : ∀ w', St w0 F0 w' L' G → K undef w') : X P ρ w (.store t x y) ty K := by
  subst hcs; subst hL'; subst hm
  intro a ops Q o ho _ ha hw
  have hones : ∀ (l : List Value), ones l = true → ∀ u ∈ l, u.oneCell' = true := by
    intro l
    induction l with
    | nil => intro _ u hu; cases hu
    | cons v l ih =>
      intro h u hu
      have h2 : v.oneCell' = true ∧ ones l = true := by simpa [ones] using h
      rcases List.mem_cons.1 hu with rfl | hu
      · exact h2.1
      · exact ih h2.2 u hu
  refine r_store hst j hw ho (by rw [ha]; exact hx) hL (v := .agg vs.toArray) (by rw [ha]; exact hy) hsz hi (by simpa [Value.cells] using hones vs h1) ?_
  intro w' h
  exact ⟨_, rfl, k w' h⟩
/-- A call of a function that is named. -/
theorem X.call {f : FuncId} {xs : Array Operand} {tys : Array TypeId} (hfc : ∀ args w, (callFunc f args).run P w = .ok (.enter f args) w) {vs : List Value} (hv : (xs.toList.map (ev ρ)) = vs) {K : Value → World → Prop} (hc : Calls P f vs.toArray w (fun e w' => ∃ v, e = .returned v ∧ K v w')) :
    X P ρ w (.call { callee := .value (.func f), args := xs, argTypes := tys }) ty K := by
  subst hv
  intro a ops Q o ho _ ha hw
  refine wpl_call hw (by rw [show execOp a.eval o = callFunc f (#[] ++ xs.map a.eval ++ #[]) by rcases o with ⟨_, _, _, _, _, _⟩; simp only at ho; subst ho; rfl, hfc]) (R := fun e w' => ∃ v, e = .returned v ∧ K v w') ?_ ?_
  · have e : #[] ++ xs.map a.eval ++ #[] = (xs.toList.map (ev ρ)).toArray := by
      rw [ha]; apply Array.ext'; simp
    rw [e]
    exact hc
  · rintro e w' ⟨v, rfl, h⟩
    exact ⟨v, rfl, v, rfl, h⟩
end
end Go.Proofs.Ytkbkgpedpaodlaa.K
