/- The walks of must and of Decode's deferred function. -/
import Derived.Test.YtkbkgpedpaodlaaWS
import Derived.Test.YtkbkgpedpaodlaaE4
set_option linter.unusedVariables false
set_option linter.unusedSimpArgs false
namespace Go.Proofs.Ytkbkgpedpaodlaa.W
open Go.RowKit Go.Proofs.Ytkbkgpedpaodlaa.K Go.Proofs.Ytkbkgpedpaodlaa.CM
def faultV (er : Int) : Value := .iface 57 (.agg #[.int .i64 er])
def zms : List Value := [.int .i64 0, .int .i64 0, .int .i64 0, .int .i64 0, .int .i64 0, .int .i64 0, .bool false, .bool false, .int .i64 0, .int .i64 0, .int .i64 0, .int .i64 0, .int .i64 0, .slice none 0 0]
theorem bd57_0 {S ρ ty} {parts : Array (Nat × Operand)} {x0 : Int} (hp : (parts.toList.map fun x => (x.1, ev ρ x.2)) = [(0, Value.int .i64 x0)]) : Y Try.prog S ρ (.build 57 parts) ty (.agg #[Value.int .i64 x0]) :=
  Y.build hp fun w => by simp [Instr.build, go_sem]
theorem fa57_0 (a : Addr) (w : World) : (Instr.fieldAt 57 (.pointer (some a)) 0).run Try.prog w = .ok (.pointer (some (a.add 0))) w := by
  simp [Instr.fieldAt, Instr.sureAddr, go_sem]

theorem must_T (er : Int) (Wd : World) : Calls Try.prog 29 #[.bool true, .int .i64 er] Wd fun e w' => e = .returned (.tuple #[]) ∧ Wd = w' := by
  refine W.func Try.func29 rfl Try.ntmps29 rfl ?_
  refine W.seq rfl ?_
  refine W.region rfl ?_
  refine Ops.y rfl rfl rfl (any _) (Y.moveB rfl) ?_
  refine Ops.y rfl rfl rfl (any _) (Y.not rfl) ?_
  refine Ops.done rfl ?_
  refine W.condF rfl rfl ?_
  refine W.skip rfl ?_
  refine ⟨_, Rslt.none Try.results29, ?_⟩
  exact ⟨rfl, rfl⟩

theorem must_F (er : Int) (Wd : World) : Calls Try.prog 29 #[.bool false, .int .i64 er] Wd fun e w' => e = .panicked [{ v := faultV er, recovered := false }] ∧ Wd = w' := by
  refine W.func Try.func29 rfl Try.ntmps29 rfl ?_
  refine W.seq rfl ?_
  refine W.region rfl ?_
  refine Ops.y rfl rfl rfl (any _) (Y.moveB rfl) ?_
  refine Ops.y rfl rfl rfl (any _) (Y.not rfl) ?_
  refine Ops.done rfl ?_
  refine W.condT rfl rfl ?_
  refine W.region rfl ?_
  refine Ops.y rfl rfl rfl (any _) (Y.moveI rfl) ?_
  refine Ops.y rfl rfl rfl (any _) (bd57_0 rfl) ?_
  refine Ops.y rfl rfl rfl (any _) (Y.iface Try.underlying57 rfl) ?_
  refine Ops.xp rfl rfl (XP.panic rfl ?_)
  exact ⟨rfl, rfl⟩

theorem rec_nil (pm pe : Value) (w0 w : World) (F0 : List Nat) (L G : List Res) (hst : St w0 F0 w L G) :
    CallsD Try.prog 28 #[pm, pe] .returning w fun e u' w' => e = .returned (.tuple #[]) ∧ u' = .returning ∧ St w0 F0 w' L G := by
  refine W.funcR (args := [_, _]) Try.func28 rfl Try.ntmps28 rfl rfl rfl rfl rfl rfl rfl rfl (.inl ⟨rfl, rfl, rfl⟩) ?_
  refine W.seq rfl ?_
  refine W.region rfl ?_
  refine Ops.y rfl rfl rfl hst.ctx (Y.moveV rfl) ?_
  refine Ops.y rfl rfl rfl hst.ctx (Y.assertNo Try.underlying57 Try.zeroValue57 rfl) ?_
  refine Ops.y rfl rfl rfl hst.ctx (Y.moveU rfl) ?_
  refine Ops.y rfl rfl rfl hst.ctx (Y.extract rfl rfl) ?_
  refine Ops.y rfl rfl rfl hst.ctx (Y.extract rfl rfl) ?_
  refine Ops.x rfl rfl rfl (X.allocA hst Try.zeroValue57 ?_)
  clear hst; intro p3 w3 hst
  refine Ops.x rfl rfl rfl (X.storeS hst 0 Try.sizeOf57 rfl rfl rfl rfl rfl (Nat.le_of_ble_eq_true rfl) rfl rfl ?_)
  clear hst; intro w1_6 hst
  try simp only [List.set_cons_zero, List.set_cons_succ, Nat.zero_add, Nat.reduceAdd, splice, List.take, List.drop, List.append_eq, List.nil_append, List.cons_append, List.length_cons, List.length_nil] at hst
  refine Ops.y rfl rfl rfl hst.ctx (Y.assignB rfl) ?_
  refine Ops.done rfl ?_
  refine W.seq rfl ?_
  refine W.region rfl ?_
  refine Ops.y rfl rfl rfl hst.ctx (Y.moveB rfl) ?_
  refine Ops.done rfl ?_
  refine W.condF rfl rfl ?_
  refine W.seq rfl ?_
  refine W.region rfl ?_
  refine Ops.y rfl rfl rfl hst.ctx (Y.moveV rfl) ?_
  refine Ops.y rfl rfl rfl hst.ctx (Y.neNil Try.underlying20 rfl) ?_
  refine Ops.done rfl ?_
  refine W.condF rfl rfl ?_
  refine W.skip rfl ?_
  refine ⟨_, Rslt.none Try.results28, ?_⟩
  exact ⟨rfl, rfl, hst.drop⟩

theorem rec_fault (bm be : Nat) (ms : List Value) (hms : ms.length = 14) (v0 : Value) (er : Int) (w0 w : World) (F0 : List Nat) (L G : List Res) (hst : St w0 F0 w (cellsR bm ms 28 :: cellsR be [v0] 32 :: L) G) :
    CallsD Try.prog 28 #[.pointer (some ⟨bm, 0, none⟩), .pointer (some ⟨be, 0, none⟩)] (.panicking [{ v := faultV er, recovered := false }]) w fun e u' w' => e = .returned (.tuple #[]) ∧ u' = .panicking [{ v := faultV er, recovered := true }] ∧
      St w0 F0 w' (cellsR bm zms 28 :: cellsR be [.int .i64 er] 32 :: L) G := by
  refine W.funcR (args := [_, _]) Try.func28 rfl Try.ntmps28 rfl rfl rfl rfl rfl rfl rfl rfl (.inr ⟨rfl, rfl⟩) ?_
  refine W.seq rfl ?_
  refine W.region rfl ?_
  refine Ops.y rfl rfl rfl hst.ctx (Y.moveV rfl) ?_
  refine Ops.y rfl rfl rfl hst.ctx (Y.assertYes Try.underlying57 rfl) ?_
  refine Ops.y rfl rfl rfl hst.ctx (Y.moveU rfl) ?_
  refine Ops.y rfl rfl rfl hst.ctx (Y.extract rfl rfl) ?_
  refine Ops.y rfl rfl rfl hst.ctx (Y.extract rfl rfl) ?_
  refine Ops.x rfl rfl rfl (X.allocA hst Try.zeroValue57 ?_)
  clear hst; intro p3 w3 hst
  refine Ops.x rfl rfl rfl (X.storeS hst 0 Try.sizeOf57 rfl rfl rfl rfl rfl (Nat.le_of_ble_eq_true rfl) rfl rfl ?_)
  clear hst; intro w1_6 hst
  try simp only [List.set_cons_zero, List.set_cons_succ, Nat.zero_add, Nat.reduceAdd, splice, List.take, List.drop, List.append_eq, List.nil_append, List.cons_append, List.length_cons, List.length_nil] at hst
  refine Ops.y rfl rfl rfl hst.ctx (Y.assignB rfl) ?_
  refine Ops.done rfl ?_
  refine W.seq rfl ?_
  refine W.region rfl ?_
  refine Ops.y rfl rfl rfl hst.ctx (Y.moveB rfl) ?_
  refine Ops.done rfl ?_
  refine W.condT rfl rfl ?_
  replace hst := hst.toFact
  refine W.drawn rfl (by kernel_rfl) (Ctx _ _ (L) (_)) [] (.op 0 0 (.op 1 0 (.op 2 0 (.op 3 1 (.op 4 1 .nil))))) rfl (by kernel_rfl) hst.drew.ctx2 ?_
  replace hst := hst.drew
  generalize World.drew _ = wd at hst ⊢
  refine Drw.y rfl rfl rfl hst.ctx2 (bd28_ rfl) ?_
  first
  | refine Drw.y rfl rfl rfl hst.ctx2 (Y.fieldAddr fa57_0 rfl) ?_
  | refine Drw.y rfl rfl rfl hst.ctx2 (Y.fieldAddrP fa57_0 rfl) ?_
  first
  | refine Drw.y rfl rfl rfl hst.ctx2 (Y.load 0 Try.isAgg32 rfl rfl rfl) ?_
  | refine Drw.y rfl rfl rfl hst.ctx2 (Y.loadG 0 Try.isAgg32 rfl rfl rfl) ?_
  refine Drw.x rfl rfl rfl (X.storeS hst 0 Try.sizeOf28 rfl rfl (vs := zms) rfl rfl rfl (by rw [hms]; exact Nat.le_refl _) (cs' := zms) (by unfold splice; simp [zms, hms]) rfl ?_)
  clear hst; intro w33 hst
  refine ⟨hst.ctx2, ?_⟩
  refine Drw.x rfl rfl rfl (X.storeV hst 1 (.int _ _) Try.sizeOf32 rfl rfl rfl rfl (Nat.le_of_ble_eq_true rfl) rfl rfl ?_)
  clear hst; intro w34 hst
  refine ⟨hst.ctx2, ?_⟩
  refine Drw.done ?_
  refine ⟨_, Rslt.none Try.results28, ?_⟩
  exact ⟨rfl, rfl, hst.forget⟩
end Go.Proofs.Ytkbkgpedpaodlaa.W
